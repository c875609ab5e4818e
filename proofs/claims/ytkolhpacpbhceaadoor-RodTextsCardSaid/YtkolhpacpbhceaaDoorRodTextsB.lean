/-
A part of what these laws rest on: contracts of the functions that they reach, and plain lemmas.
-/
import Derived.Test.YtkolhpacpbhceaaDoorProg
import Derived.ChangeArms
import Derived.DataReads
import Derived.Lib.LaidTab
import Derived.Lib.SmallJoins
import Derived.Carry
import Derived.Test.YtkolhpacpbhceaaDoorRows
import Derived.Lib.ItoaNum
import Derived.LaidLaws
import Derived.Shelf.Vars
import Derived.Shelf.Strings.Builder1
import Derived.Shelf.Strings.BuilderF
import Derived.Shelf.Strings.BuilderK
import Derived.Shelf.Strconv.Itoa0
import Derived.Shelf.Strconv.Itoa1
import Derived.Shelf.LaysM
import Derived.Shelf.Strconv.Itoa2
import Derived.Shelf.Strconv.Itoa3
import Derived.Shelf.Strings.Search1
import Derived.Shelf.Strings.Search2
import Derived.Shelf.Strings.Cut
import Derived.Shelf.Strings.Shaped
import Derived.RangeFuncNested
import Derived.RangeFuncBound
import Derived.RangeFuncCalls
import Derived.RangeFuncLeaves
import Derived.RangeFuncBox
import Derived.Shelf.Abstract
import Derived.Shelf.RegionOpen
import Derived.OwnWalkIn
import Derived.TacticsInMore
import Derived.LoopNIn
import Derived.LoopIn
import Derived.Lib.AtoiAll
import Derived.Lib.IndexMore
import Derived.Lib.Split
import Derived.Test.YtkolhpacpbhceaaDoorRodTextsA
set_option linter.unusedVariables false
set_option linter.unusedSimpArgs false
namespace Go.Proofs.YtkolhpacpbhceaaDoor.Pr
open Go.RowKit Go.Proofs.YtkolhpacpbhceaaDoorW.PrintWords Go.Proofs.YtkolhpacpbhceaaDoorW.PrintLast Go.Proofs.YtkolhpacpbhceaaDoorW.PrintMore
attribute [local go_sem] max2_int min2_int max_two min_two max_three min_three max_four min_four   -- for this text's walks alone
set_option linter.unusedVariables false
set_option linter.unusedSimpArgs false
def errW : Option Int → Value
 | none => .nilIface
 | some c => .iface 0 (.int .i64 c)
theorem errW_none : errW none = .nilIface := rfl
theorem errW_some (c : Int) : errW (some c) = .iface 0 (.int .i64 c) := rfl
theorem info39 : (Tryd.prog.info? 39).map (fun i => (i.zero, i.size, i.bytes)) = some (some (.agg #[(.int .i64 0), (.int .i64 0)]), 2, 16) := by kernel_rfl
structure S39 where
 f0 : Int
 f1 : Int
def z39 : S39 := ⟨(0 : Int), (0 : Int)⟩
def k39 : Kd S39 := Kd.iso (Kd.pair (Kd.int .i64) (Kd.int .i64)) (fun x : S39 => (x.f0, x.f1))
theorem k39_open {w : World} {x : S39} {cs : List Value} (h : k39.K w x cs) : cs = [.int .i64 x.f0, .int .i64 x.f1] := by
 obtain ⟨_, _, rfl, rfl, rfl⟩ := h
 exact rfl
theorem k39_mk (w : World) (x : S39)  : k39.K w x [.int .i64 x.f0, .int .i64 x.f1] := ⟨[.int .i64 x.f0], [.int .i64 x.f1], rfl, rfl, rfl⟩
theorem k39_mkM (w : World) (base : Nat) (ok : Nat → Prop) (x : S39)  : k39.M w base ok x [.int .i64 x.f0, .int .i64 x.f1] := ⟨[.int .i64 x.f0], [.int .i64 x.f1], rfl, rfl, rfl⟩
def rd_T39 (xs : List S39) (i : Int) : S39 := xs.getD i.toNat z39
theorem at_T39 {w : World} {A : Option Addr} {n : Nat} {xs : List S39} (h : Kd.C k39 w A n xs) (i : Int) (h0 : 0 ≤ i) (h1 : i < n) : ∃ ad , A = some ad ∧ w.cell? (ad.add (i.toNat * 2)) = some (.int .i64 (rd_T39 xs i).f0) ∧ w.cell? ⟨(ad.add (i.toNat * 2)).block, (ad.add (i.toNat * 2)).off + 1, none⟩ = some (.int .i64 (rd_T39 xs i).f1) := by
 obtain ⟨ad, c, e, _, hK, hc0⟩ := Kd.C_get h z39 i h0 h1
 have hc : ∀ j u, c[j]? = some u → w.cell? (ad.add (i.toNat * 2 + j)) = some u := hc0
 obtain rfl := k39_open hK
 exact ⟨ad, e, hc 0 _ rfl, by rw [← add_field _ _ 1 (by omega)]; exact hc 1 _ rfl⟩
end Go.Proofs.YtkolhpacpbhceaaDoor.Pr
namespace Go.Proofs.YtkolhpacpbhceaaDoor.O
open Go Go.RowKit Go.Proofs.YtkolhpacpbhceaaDoorW.PrintWords
/-- What reads as data at type t reads as a value of kind d that is ok. -/
def Opens {α : Type} (P : Program) (t : TypeId) (d : Kd α) (ok : α → Prop) : Prop :=
  P.cellsOf t = d.sz ∧ ∀ (H : Type) (enc : TypeId × Value → H) (w : World) (base : Nat) (sp : Nat → Bool) (held : Bool) (fuel : Nat) (cs : List Value) (x : DataW H × List MemPlace),
    DataW.trod enc P w base sp held fuel t cs = some x → ∃ v : α, d.K w v cs ∧ ok v
theorem opens_int {P : Program} {t : TypeId} {k : IntKind} (ht : P.underlying t = some (.int k)) (hc : P.cellsOf t = 1) : Opens P t (Kd.int k) (fun x => (Lit.int k x).wf = true) :=
  ⟨hc, fun H enc w base sp held fuel cs x h => by
    obtain ⟨n, rfl, _, hw⟩ := DataW.trod_int ht h
    exact ⟨n, rfl, hw⟩⟩
theorem choose_list {α : Type} (n : Nat) (p : Nat → α → Prop) (h : ∀ i, i < n → ∃ v, p i v) : ∃ vs : List α, vs.length = n ∧ ∀ i v, vs[i]? = some v → p i v := by
  induction n with
  | zero => exact ⟨[], rfl, fun i v hv => by simp at hv⟩
  | succ n ih =>
    obtain ⟨vs, hl, hp⟩ := ih (fun i hi => h i (by omega))
    obtain ⟨v, hv⟩ := h n (by omega)
    refine ⟨vs ++ [v], by simp [hl], fun i u hu => ?_⟩
    rcases Nat.lt_or_ge i n with hi | hi
    · rw [List.getElem?_append_left (by omega)] at hu
      exact hp i u hu
    · rw [List.getElem?_append_right (by omega)] at hu
      have hi0 : i = n := by
        have := (List.getElem?_eq_some_iff.1 hu).1
        simp at this
        omega
      subst hi0
      rw [hl] at hu
      simp at hu
      subst hu
      exact hv
theorem opens_slice {α : Type} {P : Program} {t e : TypeId} {d : Kd α} {ok : α → Prop} (ht : P.underlying t = some (.slice e)) (hc : P.cellsOf t = 1) (hO : Opens P e d ok) :
    Opens P t (Kd.slice e d) (fun xs => xs.length ≤ maxLen ∧ ∀ x, x ∈ xs → ok x) :=
  ⟨hc, fun H enc w base sp held fuel cs x h => by
    rcases DataW.trod_slice ht h with ⟨rfl, _⟩ | ⟨a, len, cap, elems, rest, n, _, rfl, _, hb, hl, hm, hel, hget, _, _⟩
    · exact ⟨[], ⟨none, 0, rfl, Nat.le_refl _, rfl, by simp, fun h0 => absurd h0 (by simp)⟩, by simp, fun x hx => absurd hx (by simp)⟩
    · obtain ⟨vs, hvl, hv⟩ := choose_list len (fun i v => (∃ c, c.length = d.sz ∧ d.K w v c ∧ ∀ j u, c[j]? = some u → w.cell? (a.add (i * d.sz + j)) = some u) ∧ ok v) (fun i hi => by
        have hg := hget i hi
        obtain ⟨y, hy⟩ : ∃ y, elems[i]? = some y := ⟨elems[i]'(by omega), List.getElem?_eq_getElem (by omega)⟩
        rw [hy] at hg
        obtain ⟨c, hcs, htr⟩ := Option.bind_eq_some_iff.1 hg
        obtain ⟨v, hK, hok⟩ := hO.2 H enc w base sp held n c y htr
        obtain ⟨_, hcl, hcell⟩ := World.cells?_some hcs
        refine ⟨v, ⟨c, by rw [hcl, hO.1], hK, fun j u hj => ?_⟩, hok⟩
        have hjl : j < P.cellsOf e := by
          rw [← hcl]
          exact (List.getElem?_eq_some_iff.1 hj).1
        rw [← hO.1, ← Addr.add_add, hcell j hjl, hj])
      have hmx : len ≤ 9223372036854775807 := by
        have : len ≤ maxLen := by omega
        simpa [maxLen] using this
      refine ⟨vs, ⟨some a, cap, by rw [hvl], by omega, rfl, by omega, fun _ => ⟨a, rfl, fun j p hp => ?_⟩⟩, by omega, fun x hx => ?_⟩
      · exact (hv j p hp).1
      · obtain ⟨i, hi⟩ := List.mem_iff_getElem?.1 hx
        exact (hv i x hi).2⟩
/-- One of the listed variables. -/
theorem laidVars_mem {P : Program} {w : World} {name : String} {d : DataW Unit} : ∀ (l : List (String × DataW Unit)) (ps : List MemPlace), DataW.LaidVars P w l ps → (name, d) ∈ l →
    ∃ g t cs fuel p, P.globalNamed name = some g ∧ (P.globals[g]?).map (·.type) = some t ∧ w.var? P name = some cs ∧ DataW.trod (fun _ => ()) P w 0 (fun _ => true) false fuel t cs.toList = some (d, p)
  | [], _, _, hm => absurd hm (by simp)
  | (n, e) :: r, ps, h, hm => by
    obtain ⟨g, t, cs, fuel, p, q, hg, ht, hv, hd, hr, _⟩ := h
    rcases List.mem_cons.1 hm with hx | hx
    · injection hx with h1 h2
      subst h1
      subst h2
      exact ⟨g, t, cs, fuel, p, hg, ht, hv, hd⟩
    · exact laidVars_mem r q hr hx
theorem tab_of_laid {P : Program} {W : World} {name : String} {k : IntKind} {zs : List Int} {laid : List (String × DataW Unit)} {g : Nat} {t e : TypeId} {n : Nat}
    (hg : P.globalNamed name = some g) (hty : (P.globals[g]?).map (·.type) = some t) (ht : P.underlying t = some (.array n e)) (he : P.underlying e = some (.int k)) (hce : P.cellsOf e = 1) (hct : P.cellsOf t = n)
    (h : laidMet P laid W) (hm : (name, Lib.tabData k zs) ∈ laid) : Lib.TabIs P W name k zs := by
  obtain ⟨ps, hl, _⟩ := h
  obtain ⟨g', t', cs, fuel, p, hg', ht', hvar, hd⟩ := laidVars_mem laid ps hl hm
  obtain rfl := Option.some.inj (hg.symm.trans hg')
  obtain rfl := Option.some.inj (hty.symm.trans ht')
  unfold Lib.TabIs
  rw [hvar, ← Lib.cells_of_tab ht he hce hct hd]
end Go.Proofs.YtkolhpacpbhceaaDoor.O
namespace Go.Proofs.YtkolhpacpbhceaaDoor.X
open Go Go.RowKit
/-- What a variable holds stays where all that lay stays. -/
theorem var_below {P : Program} {w w' : World} {name : String} {cs : Array Value} (h : w.var? P name = some cs) (hb : Below w.heap.size w w') : w'.var? P name = some cs := by
  unfold World.var? at *
  cases hg : P.globalNamed name with
  | none => simp [hg] at h
  | some g =>
    simp only [hg, Option.bind_some] at h ⊢
    have hlt : g < w.heap.size := by
      rcases Nat.lt_or_ge g w.heap.size with h' | h'
      · exact h'
      · rw [Array.getElem?_eq_none h'] at h; simp at h
    rw [hb.block g hlt]
    exact h
/-- The table of the powers of ten, and some number where internal/bytealg.MaxLen lies. -/
def GI (w : World) : Prop := Lib.TabIs Tryd.prog w "internal/strconv.uint64pow10" .u64 Lib.pow10Tab ∧ True ∧ True ∧ ∃ m, w.cell? ⟨0, 0, none⟩ = some (.int .i64 m)
theorem GI.below {w w' : World} (h : GI w) (hb : Below w.heap.size w w') : GI w' := by
  obtain ⟨h1, _, _, m, h4⟩ := h
  exact ⟨var_below h1 hb, trivial, trivial, m, (hb.cell (World.block_lt_of_cell? w _ h4)).trans h4⟩
theorem GI.drewN {w : World} (h : GI w) (n : Nat) : GI (w.drewN n) := h
theorem GI.drew {w : World} (h : GI w) : GI w.drew := h
theorem GI.of_laid {W : World} (laid : List (String × DataW Unit)) (hm1 : ("internal/strconv.uint64pow10", Rows.laid_internal_strconv_uint64pow10) ∈ laid)
    (h : laidMetH Tryd.prog laid W) (hsh : W.ShapedOpen Tryd.prog) (hp : (laid.filter fun x => x.2.handleName?.isSome) = [] := by kernel_rfl) : GI W := by
  unfold laidMetH at h
  rw [hp] at h
  refine ⟨O.tab_of_laid (g := 1) (t := 98) (e := 90) (n := 20) (by kernel_rfl) (by kernel_rfl) Tryd.underlying98 Tryd.underlying90 (by kernel_rfl) (by kernel_rfl) h hm1, trivial, trivial, ?_⟩
  exact cell_of_shapedOpen_int (t := 3) (zero := #[.int .i64 0]) hsh (of_decide_eq_true (by kernel_rfl)) (by kernel_rfl) rfl (by kernel_rfl) (by kernel_rfl) Tryd.underlying3
end Go.Proofs.YtkolhpacpbhceaaDoor.X
namespace Go.Proofs.YtkolhpacpbhceaaDoor.Pr
open Go.RowKit Go.Proofs.YtkolhpacpbhceaaDoorW.PrintWords Go.Proofs.YtkolhpacpbhceaaDoorW.PrintLast Go.Proofs.YtkolhpacpbhceaaDoorW.PrintMore Go.Proofs.YtkolhpacpbhceaaDoor.X
attribute [local go_sem] max2_int min2_int max_two min_two max_three min_three max_four min_four   -- for this text's walks alone
set_option linter.unusedVariables false
set_option linter.unusedSimpArgs false
theorem eqA39 (d : Nat) (w : World) (x0 y0 : Int) (x1 y1 : Int) :
  (Op.equalIn (d + 2) 39 (.agg #[.int .i64 x0, .int .i64 x1]) (.agg #[.int .i64 y0, .int .i64 y1])).run Tryd.prog w = .ok (x0 == y0 && (x1 == y1)) w := by
 refine eqA_of Tryd.underlying39 (by kernel_rfl) ?_
 refine eqf_cons (by rfl) (by go_simp; rfl) (by go_simp; rfl) (by go_simp) ?_
 exact eqf_last (by rfl) (by go_simp; rfl) (by go_simp; rfl) (by go_simp)
end Go.Proofs.YtkolhpacpbhceaaDoor.Pr
namespace Go.Proofs.YtkolhpacpbhceaaDoor.Pr
open Go.RowKit Go.Proofs.YtkolhpacpbhceaaDoorW.PrintWords Go.Proofs.YtkolhpacpbhceaaDoorW.PrintLast Go.Proofs.YtkolhpacpbhceaaDoorW.PrintMore Go.Proofs.YtkolhpacpbhceaaDoor.X
attribute [local go_sem] max2_int min2_int max_two min_two max_three min_three max_four min_four   -- for this text's walks alone
set_option linter.unusedVariables false
set_option linter.unusedSimpArgs false
attribute [local go_sem high] eqA39
mutual
def spileref13_Same.j0 : Nat → Bool → List (S39) → Int → List (S39) → Int → Option (Bool)
 | 0, _, _, _, _, _ => none
 | k + 1, x19, x141000, x141001, x142000, x142001 => if x19 = true then (some false) else (spileref13_Same.l0 k 0 x141000 x141001 x142000 x142001)
def spileref13_Same.l0 : Nat → Int → List (S39) → Int → List (S39) → Int → Option (Bool)
 | 0, _, _, _, _, _ => none
 | k + 1, x5, x141000, x141001, x142000, x142001 => if x5 < (x141000.length : Int) then (if 0 ≤ x5 then (if x5 < (x142000.length : Int) then (if (!(((rd_T39 x141000 x5).f0) == ((rd_T39 x142000 x5).f0)) || (!(((rd_T39 x141000 x5).f1) == ((rd_T39 x142000 x5).f1)))) = true then (some false) else (spileref13_Same.l0 k (wrap64 (x5 + 1)) x141000 x141001 x142000 x142001)) else (none)) else (none)) else (some true)
end
def spileref13_Same.f (k : Nat) (l0_0 : List (S39)) (a0_1 : Int) (l1_0 : List (S39)) (a1_1 : Int) : Option (Bool) := if (l0_0.length : Int) = (l1_0.length : Int) then (spileref13_Same.j0 k (a0_1 != a1_1) l0_0 a0_1 l1_0 a1_1) else (spileref13_Same.j0 k true l0_0 a0_1 l1_0 a1_1)
set_option maxHeartbeats 8000000 in
set_option maxRecDepth 100000 in
theorem spileref13_Same.calls (k : Nat) (A0_0 : Option Addr) (c0_0 : Nat) (l0_0 : List (S39)) (a0_1 : Int) (A1_0 : Option Addr) (c1_0 : Nat) (l1_0 : List (S39)) (a1_1 : Int) (r : Bool) (w : World) (hr0_0 : Kd.C k39 w A0_0 l0_0.length l0_0) (hc0_0 : l0_0.length ≤ c0_0) (hr1_0 : Kd.C k39 w A1_0 l1_0.length l1_0) (hc1_0 : l1_0.length ≤ c1_0) (h : spileref13_Same.f k l0_0 a0_1 l1_0 a1_1 = some r) :
  Calls Tryd.prog 37 #[.agg #[.slice A0_0 l0_0.length c0_0, .int .i64 a0_1], .agg #[.slice A1_0 l1_0.length c1_0, .int .i64 a1_1]] w fun e w' => e = .returned (.bool r) ∧ Below w.heap.size w w' := by
 have hu24 := Tryd.underlying24
 have hu39 := Tryd.underlying39
 have HR0_0 := Aside0.mk hr0_0
 have HC0_0 := Aside0.mk hc0_0
 clear hr0_0 hc0_0
 have HR1_0 := Aside0.mk hr1_0
 have HC1_0 := Aside0.mk hc1_0
 clear hr1_0 hc1_0
 have HB := Aside0.mk (Below.refl w.heap.size w)
 have H : (if (l0_0.length : Int) = (l1_0.length : Int) then (spileref13_Same.j0 k (a0_1 != a1_1) l0_0 a0_1 l1_0 a1_1) else (spileref13_Same.j0 k true l0_0 a0_1 l1_0 a1_1)) = some r := h
 clear h
 have HC3 := Aside0.mk H
 clear H
 go_enter Tryd.func37, Tryd.ntmps37
 go_upto_region 1 with (first | ((with_reducible refine gate_dst (N := 2) rfl ?_); refine box_event ?hg (N := 2) ?hd (cs := #[.slice A0_0 l0_0.length c0_0, .int .i64 a0_1]) (t := 24) ?hr ?_; (case hd => rfl); (case hg => rfl); (case hr => first | (go_simp; done) | (go_simp; rfl)); intro gb140 hg w4 hbox hb; have n0_ := Aside0.mk (below_step (by repeat (first | (with_reducible first | exact HB.out | apply below_alloc | apply pw_below_drewN | apply below_drew1) | exact HB.out)) hb); have n1_ := Aside0.mk (hbox); have n2_ := Aside0.mk ((by rw [hg]; exact (below_size (by repeat (first | (with_reducible first | exact HB.out | apply below_alloc | apply pw_below_drewN | apply below_drew1) | exact HB.out))) : w.heap.size ≤ gb140)); have n3_ := Aside0.mk ((by rw [hg]; exact (below_size (by repeat (first | (with_reducible first | exact HB.out | apply below_alloc | apply pw_below_drewN | apply below_drew1) | exact HB.out))) : w.heap.size ≤ gb140)); clear HB; have HB := n0_; have BK140 := n1_; have GW140 := n2_; have GE140 := n3_; clear n0_ n1_ n2_ n3_; clear hb hbox hg) | ((with_reducible refine gate_dst (N := 3) rfl ?_); refine box_event ?hg (N := 3) ?hd (cs := #[.slice A1_0 l1_0.length c1_0, .int .i64 a1_1]) (t := 24) ?hr ?_; (case hd => rfl); (case hg => rfl); (case hr => first | (go_simp; done) | (go_simp; rfl)); intro gb141 hg w5 hbox hb; have n0_ := Aside0.mk (blk_below (g := gb140) (o := .cells #[.slice A0_0 l0_0.length c0_0, .int .i64 a0_1] 24 (0, 0)) (by (with_reducible repeat (first | refine blk_drewN ?_ _ | refine blk_drew ?_ | refine blk_alloc ?_ _)); exact BK140.out) hb); have n1_ := Aside0.mk (below_step (by repeat (first | (with_reducible first | exact HB.out | apply below_alloc | apply pw_below_drewN | apply below_drew1 | refine below_set ?_ GE140.out) | exact HB.out)) hb); have n2_ := Aside0.mk (hbox); have n3_ := Aside0.mk ((by rw [hg]; exact (below_size (by repeat (first | (with_reducible first | exact HB.out | apply below_alloc | apply pw_below_drewN | apply below_drew1 | refine below_set ?_ GE140.out) | exact HB.out))) : w.heap.size ≤ gb141)); have n4_ := Aside0.mk ((by rw [hg]; exact (below_size (by repeat (first | (with_reducible first | exact HB.out | apply below_alloc | apply pw_below_drewN | apply below_drew1 | refine below_set ?_ GE140.out) | exact HB.out))) : w.heap.size ≤ gb141)); have n5_ := Aside0.mk ((by rw [hg]; exact Nat.ne_of_lt (blk_lt (g := gb140) (o := .cells #[.slice A0_0 l0_0.length c0_0, .int .i64 a0_1] 24 (0, 0)) (by (with_reducible repeat (first | refine blk_drewN ?_ _ | refine blk_drew ?_ | refine blk_alloc ?_ _)); exact BK140.out)) : gb140 ≠ gb141)); have n6_ := Aside0.mk ((by rw [hg]; exact Nat.ne_of_gt (blk_lt (g := gb140) (o := .cells #[.slice A0_0 l0_0.length c0_0, .int .i64 a0_1] 24 (0, 0)) (by (with_reducible repeat (first | refine blk_drewN ?_ _ | refine blk_drew ?_ | refine blk_alloc ?_ _)); exact BK140.out)) : gb141 ≠ gb140)); clear BK140; clear HB; have BK140 := n0_; have HB := n1_; have BK141 := n2_; have GW141 := n3_; have GE141 := n4_; have NB140_141 := n5_; have NB141_140 := n6_; clear n0_ n1_ n2_ n3_ n4_ n5_ n6_; clear hb hbox hg))
 repeat (go_quiet (first | ((with_reducible refine gate_dst (N := 2) rfl ?_); refine box_event ?hg (N := 2) ?hd (cs := #[.slice A0_0 l0_0.length c0_0, .int .i64 a0_1]) (t := 24) ?hr ?_; (case hd => rfl); (case hg => rfl); (case hr => first | (go_simp; done) | (go_simp; rfl)); intro gb140 hg w4 hbox hb; have n0_ := Aside0.mk (below_step (by repeat (first | (with_reducible first | exact HB.out | apply below_alloc | apply pw_below_drewN | apply below_drew1) | exact HB.out)) hb); have n1_ := Aside0.mk (hbox); have n2_ := Aside0.mk ((by rw [hg]; exact (below_size (by repeat (first | (with_reducible first | exact HB.out | apply below_alloc | apply pw_below_drewN | apply below_drew1) | exact HB.out))) : w.heap.size ≤ gb140)); have n3_ := Aside0.mk ((by rw [hg]; exact (below_size (by repeat (first | (with_reducible first | exact HB.out | apply below_alloc | apply pw_below_drewN | apply below_drew1) | exact HB.out))) : w.heap.size ≤ gb140)); clear HB; have HB := n0_; have BK140 := n1_; have GW140 := n2_; have GE140 := n3_; clear n0_ n1_ n2_ n3_; clear hb hbox hg) | ((with_reducible refine gate_dst (N := 3) rfl ?_); refine box_event ?hg (N := 3) ?hd (cs := #[.slice A1_0 l1_0.length c1_0, .int .i64 a1_1]) (t := 24) ?hr ?_; (case hd => rfl); (case hg => rfl); (case hr => first | (go_simp; done) | (go_simp; rfl)); intro gb141 hg w5 hbox hb; have n0_ := Aside0.mk (blk_below (g := gb140) (o := .cells #[.slice A0_0 l0_0.length c0_0, .int .i64 a0_1] 24 (0, 0)) (by (with_reducible repeat (first | refine blk_drewN ?_ _ | refine blk_drew ?_ | refine blk_alloc ?_ _)); exact BK140.out) hb); have n1_ := Aside0.mk (below_step (by repeat (first | (with_reducible first | exact HB.out | apply below_alloc | apply pw_below_drewN | apply below_drew1 | refine below_set ?_ GE140.out) | exact HB.out)) hb); have n2_ := Aside0.mk (hbox); have n3_ := Aside0.mk ((by rw [hg]; exact (below_size (by repeat (first | (with_reducible first | exact HB.out | apply below_alloc | apply pw_below_drewN | apply below_drew1 | refine below_set ?_ GE140.out) | exact HB.out))) : w.heap.size ≤ gb141)); have n4_ := Aside0.mk ((by rw [hg]; exact (below_size (by repeat (first | (with_reducible first | exact HB.out | apply below_alloc | apply pw_below_drewN | apply below_drew1 | refine below_set ?_ GE140.out) | exact HB.out))) : w.heap.size ≤ gb141)); have n5_ := Aside0.mk ((by rw [hg]; exact Nat.ne_of_lt (blk_lt (g := gb140) (o := .cells #[.slice A0_0 l0_0.length c0_0, .int .i64 a0_1] 24 (0, 0)) (by (with_reducible repeat (first | refine blk_drewN ?_ _ | refine blk_drew ?_ | refine blk_alloc ?_ _)); exact BK140.out)) : gb140 ≠ gb141)); have n6_ := Aside0.mk ((by rw [hg]; exact Nat.ne_of_gt (blk_lt (g := gb140) (o := .cells #[.slice A0_0 l0_0.length c0_0, .int .i64 a0_1] 24 (0, 0)) (by (with_reducible repeat (first | refine blk_drewN ?_ _ | refine blk_drew ?_ | refine blk_alloc ?_ _)); exact BK140.out)) : gb141 ≠ gb140)); clear BK140; clear HB; have BK140 := n0_; have HB := n1_; have BK141 := n2_; have GW141 := n3_; have GE141 := n4_; have NB140_141 := n5_; have NB141_140 := n6_; clear n0_ n1_ n2_ n3_ n4_ n5_ n6_; clear hb hbox hg)); go_upto_region 1 with (first | ((with_reducible refine gate_dst (N := 2) rfl ?_); refine box_event ?hg (N := 2) ?hd (cs := #[.slice A0_0 l0_0.length c0_0, .int .i64 a0_1]) (t := 24) ?hr ?_; (case hd => rfl); (case hg => rfl); (case hr => first | (go_simp; done) | (go_simp; rfl)); intro gb140 hg w4 hbox hb; have n0_ := Aside0.mk (below_step (by repeat (first | (with_reducible first | exact HB.out | apply below_alloc | apply pw_below_drewN | apply below_drew1) | exact HB.out)) hb); have n1_ := Aside0.mk (hbox); have n2_ := Aside0.mk ((by rw [hg]; exact (below_size (by repeat (first | (with_reducible first | exact HB.out | apply below_alloc | apply pw_below_drewN | apply below_drew1) | exact HB.out))) : w.heap.size ≤ gb140)); have n3_ := Aside0.mk ((by rw [hg]; exact (below_size (by repeat (first | (with_reducible first | exact HB.out | apply below_alloc | apply pw_below_drewN | apply below_drew1) | exact HB.out))) : w.heap.size ≤ gb140)); clear HB; have HB := n0_; have BK140 := n1_; have GW140 := n2_; have GE140 := n3_; clear n0_ n1_ n2_ n3_; clear hb hbox hg) | ((with_reducible refine gate_dst (N := 3) rfl ?_); refine box_event ?hg (N := 3) ?hd (cs := #[.slice A1_0 l1_0.length c1_0, .int .i64 a1_1]) (t := 24) ?hr ?_; (case hd => rfl); (case hg => rfl); (case hr => first | (go_simp; done) | (go_simp; rfl)); intro gb141 hg w5 hbox hb; have n0_ := Aside0.mk (blk_below (g := gb140) (o := .cells #[.slice A0_0 l0_0.length c0_0, .int .i64 a0_1] 24 (0, 0)) (by (with_reducible repeat (first | refine blk_drewN ?_ _ | refine blk_drew ?_ | refine blk_alloc ?_ _)); exact BK140.out) hb); have n1_ := Aside0.mk (below_step (by repeat (first | (with_reducible first | exact HB.out | apply below_alloc | apply pw_below_drewN | apply below_drew1 | refine below_set ?_ GE140.out) | exact HB.out)) hb); have n2_ := Aside0.mk (hbox); have n3_ := Aside0.mk ((by rw [hg]; exact (below_size (by repeat (first | (with_reducible first | exact HB.out | apply below_alloc | apply pw_below_drewN | apply below_drew1 | refine below_set ?_ GE140.out) | exact HB.out))) : w.heap.size ≤ gb141)); have n4_ := Aside0.mk ((by rw [hg]; exact (below_size (by repeat (first | (with_reducible first | exact HB.out | apply below_alloc | apply pw_below_drewN | apply below_drew1 | refine below_set ?_ GE140.out) | exact HB.out))) : w.heap.size ≤ gb141)); have n5_ := Aside0.mk ((by rw [hg]; exact Nat.ne_of_lt (blk_lt (g := gb140) (o := .cells #[.slice A0_0 l0_0.length c0_0, .int .i64 a0_1] 24 (0, 0)) (by (with_reducible repeat (first | refine blk_drewN ?_ _ | refine blk_drew ?_ | refine blk_alloc ?_ _)); exact BK140.out)) : gb140 ≠ gb141)); have n6_ := Aside0.mk ((by rw [hg]; exact Nat.ne_of_gt (blk_lt (g := gb140) (o := .cells #[.slice A0_0 l0_0.length c0_0, .int .i64 a0_1] 24 (0, 0)) (by (with_reducible repeat (first | refine blk_drewN ?_ _ | refine blk_drew ?_ | refine blk_alloc ?_ _)); exact BK140.out)) : gb141 ≠ gb140)); clear BK140; clear HB; have BK140 := n0_; have HB := n1_; have BK141 := n2_; have GW141 := n3_; have GE141 := n4_; have NB140_141 := n5_; have NB141_140 := n6_; clear n0_ n1_ n2_ n3_ n4_ n5_ n6_; clear hb hbox hg)))
 (try simp only [Act.put, List.setIfInBounds_toArray, List.set_cons_zero, List.set_cons_succ])
 go_cut [19] (fun v19 wc => ∃ (kq : Nat) (x19_2 : Bool), v19 = .bool x19_2 ∧ Aside0 (spileref13_Same.j0 kq x19_2 l0_0 a0_1 l1_0 a1_1 = some r) ∧ Aside0 (kq ≤ k) ∧ Aside0 (wc.heap[gb140]? = some (.cells #[(.slice A0_0 l0_0.length c0_0), .int .i64 a0_1] 24 (0, 0))) ∧ Aside0 (wc.heap[gb141]? = some (.cells #[(.slice A1_0 l1_0.length c1_0), .int .i64 a1_1] 24 (0, 0))) ∧ Aside0 (Below w.heap.size w wc))
 case first =>
  have H := HC3.out
  clear HC3
  by_cases c6 : (l0_0.length : Int) = (l1_0.length : Int)
  ·
   rw [if_pos c6] at H
   have c6b0 : ((l0_0.length : Int) == (l1_0.length : Int)) = true := beq_iff_eq.mpr c6
   have c6b1 : ((l0_0.length : Int) != (l1_0.length : Int)) = false := bne_eq_false_iff_eq.mpr c6
   have c6b2 : (l0_0.length == l1_0.length) = true := by first | simpa using c6 | (simp at c6 ⊢; omega)
   clear c6
   (first | rw [c6b0] | (simp only [i64_w, i32_w]; rw [c6b0]) | skip)
   have H' := Aside0.mk H
   clear H
   have hnb7 := NB140_141.out
   have hnc7 := NB141_140.out
   have hcz8_0 : w5.cell? ⟨gb140, 0, none⟩ = some (.slice A0_0 l0_0.length c0_0) := (blk_cell BK140.out 0).trans rfl
   have hcz8_1 : w5.cell? ⟨gb140, 1, none⟩ = some (.int .i64 a0_1) := (blk_cell BK140.out 1).trans rfl
   have hfz8_0 := blk_frozen BK140.out 0
   have hfz8_1 := blk_frozen BK140.out 1
   have hcz9_0 : w5.cell? ⟨gb141, 0, none⟩ = some (.slice A1_0 l1_0.length c1_0) := (blk_cell BK141.out 0).trans rfl
   have hcz9_1 : w5.cell? ⟨gb141, 1, none⟩ = some (.int .i64 a1_1) := (blk_cell BK141.out 1).trans rfl
   have hfz9_0 := blk_frozen BK141.out 0
   have hfz9_1 := blk_frozen BK141.out 1
   go_wp2
   repeat (go_quiet (fail); try go_wp2)
   go_meet
   case rel => exact ⟨_, ((a0_1 != a1_1)), (by first | rfl | (simp; done) | (simp [*]; done)), H', ⟨by first | omega | exact Nat.le_refl _⟩, ⟨by (with_reducible repeat (first | refine blk_drewN ?_ _ | refine blk_drew ?_ | refine blk_alloc ?_ _)); exact BK140.out⟩, ⟨by (with_reducible repeat (first | refine blk_drewN ?_ _ | refine blk_drew ?_ | refine blk_alloc ?_ _)); exact BK141.out⟩, ⟨by repeat (first | (with_reducible first | exact HB.out | apply below_alloc | apply pw_below_drewN | apply below_drew1 | refine below_set ?_ GE140.out | refine below_set ?_ GE141.out) | exact HB.out)⟩⟩
  ·
   rw [if_neg c6] at H
   have c6b0 : ((l0_0.length : Int) == (l1_0.length : Int)) = false := beq_eq_false_iff_ne.mpr c6
   have c6b1 : ((l0_0.length : Int) != (l1_0.length : Int)) = true := bne_iff_ne.mpr c6
   have c6b2 : (l0_0.length == l1_0.length) = false := by first | simpa using c6 | (simp at c6 ⊢; omega)
   (first | rw [c6b0] | (simp only [i64_w, i32_w]; rw [c6b0]) | skip)
   have H' := Aside0.mk H
   clear H
   have hnb10 := NB140_141.out
   have hnc10 := NB141_140.out
   have hcz11_0 : w5.cell? ⟨gb140, 0, none⟩ = some (.slice A0_0 l0_0.length c0_0) := (blk_cell BK140.out 0).trans rfl
   have hcz11_1 : w5.cell? ⟨gb140, 1, none⟩ = some (.int .i64 a0_1) := (blk_cell BK140.out 1).trans rfl
   have hfz11_0 := blk_frozen BK140.out 0
   have hfz11_1 := blk_frozen BK140.out 1
   have hcz12_0 : w5.cell? ⟨gb141, 0, none⟩ = some (.slice A1_0 l1_0.length c1_0) := (blk_cell BK141.out 0).trans rfl
   have hcz12_1 : w5.cell? ⟨gb141, 1, none⟩ = some (.int .i64 a1_1) := (blk_cell BK141.out 1).trans rfl
   have hfz12_0 := blk_frozen BK141.out 0
   have hfz12_1 := blk_frozen BK141.out 1
   go_wp2
   repeat (go_quiet (fail); try go_wp2)
   go_meet
   case rel => exact ⟨_, (true), (by first | rfl | (simp; done) | (simp [*]; done)), H', ⟨by first | omega | exact Nat.le_refl _⟩, ⟨by (with_reducible repeat (first | refine blk_drewN ?_ _ | refine blk_drew ?_ | refine blk_alloc ?_ _)); exact BK140.out⟩, ⟨by (with_reducible repeat (first | refine blk_drewN ?_ _ | refine blk_drew ?_ | refine blk_alloc ?_ _)); exact BK141.out⟩, ⟨by repeat (first | (with_reducible first | exact HB.out | apply below_alloc | apply pw_below_drewN | apply below_drew1 | refine below_set ?_ GE140.out | refine below_set ?_ GE141.out) | exact HB.out)⟩⟩
 case rest =>
  clear HC3
  try clear c1
  try clear p2
  try clear c3
  try clear c6
  try clear c6b0
  try clear c6b1
  try clear c6b2
  try clear c7
  try clear c10
  try clear hcz11_0
  try clear hcz11_1
  try clear hcz12_0
  try clear hcz12_1
  try clear hcz8_0
  try clear hcz8_1
  try clear hcz9_0
  try clear hcz9_1
  try clear hfz11_0
  try clear hfz11_1
  try clear hfz12_0
  try clear hfz12_1
  try clear hfz8_0
  try clear hfz8_1
  try clear hfz9_0
  try clear hfz9_1
  obtain ⟨kq, x19_2, rfl, HA, HJ2, BK140, BK141, HB⟩ := hcut
  cases kq with
  | zero => exact absurd HA.out (by simp [spileref13_Same.j0])
  | succ kj2 =>
   have H := HA.out
   clear HA
   simp only [spileref13_Same.j0] at H
   by_cases c13 : x19_2 = true
   ·
    subst c13
    have H1 : (some false) = some r := by rw [if_pos rfl] at H; exact H
    clear H
    have H := H1
    clear H1
    obtain rfl := Option.some.inj H
    go_wp2
    repeat (go_quiet (fail); try go_wp2)
    go_ret
    exact ⟨by first | rfl | (simp [errW_none, errW_some] <;> rfl) | (simp [*, errW_none, errW_some] <;> rfl), by repeat (first | (with_reducible first | exact HB.out | apply below_alloc | apply pw_below_drewN | apply below_drew1 | refine below_set ?_ GE140.out | refine below_set ?_ GE141.out) | exact HB.out)⟩
   ·
    replace c13 := Bool.eq_false_iff.mpr c13
    subst c13
    have H1 : (spileref13_Same.l0 kj2 0 l0_0 a0_1 l1_0 a1_1) = some r := by rw [if_neg (show ¬ (false = true) by decide)] at H; exact H
    clear H
    have H := H1
    clear H1
    have H' := Aside0.mk H
    clear H
    go_wp2
    repeat (go_quiet (fail); try go_wp2)
    go_loopg [5] kj2 (fun kq v5 w' => ∃ (x5_2 : Int), v5 = .int .i64 x5_2 ∧ Aside0 (spileref13_Same.l0 kq x5_2 l0_0 a0_1 l1_0 a1_1 = some r) ∧ Aside0 (kq ≤ kj2) ∧ Aside0 (w'.heap[gb140]? = some (.cells #[(.slice A0_0 l0_0.length c0_0), .int .i64 a0_1] 24 (0, 0))) ∧ Aside0 (w'.heap[gb141]? = some (.cells #[(.slice A1_0 l1_0.length c1_0), .int .i64 a1_1] 24 (0, 0))) ∧ Aside0 (Below w.heap.size w w'))
    case atStart => exact ⟨(0), (by first | rfl | (simp; done) | (simp [*]; done)), H', ⟨Nat.le_refl _⟩, ⟨by (with_reducible repeat (first | refine blk_drewN ?_ _ | refine blk_drew ?_ | refine blk_alloc ?_ _)); exact BK140.out⟩, ⟨by (with_reducible repeat (first | refine blk_drewN ?_ _ | refine blk_drew ?_ | refine blk_alloc ?_ _)); exact BK141.out⟩, ⟨by repeat (first | (with_reducible first | exact HB.out | apply below_alloc | apply pw_below_drewN | apply below_drew1 | refine below_set ?_ GE140.out | refine below_set ?_ GE141.out) | exact HB.out)⟩⟩
    case round =>
     clear H'
     try clear c1
     try clear p2
     try clear c3
     try clear c6
     try clear c6b0
     try clear c6b1
     try clear c6b2
     try clear c7
     try clear c10
     try clear c13
     try clear hcz11_0
     try clear hcz11_1
     try clear hcz12_0
     try clear hcz12_1
     try clear hcz8_0
     try clear hcz8_1
     try clear hcz9_0
     try clear hcz9_1
     try clear hfz11_0
     try clear hfz11_1
     try clear hfz12_0
     try clear hfz12_1
     try clear hfz8_0
     try clear hfz8_1
     try clear hfz9_0
     try clear hfz9_1
     try clear p2
     obtain ⟨x5_2, rfl, HA, HK2, BK140, BK141, HB⟩ := hrel
     cases gk with
     | zero => exact absurd HA.out (by simp [spileref13_Same.l0])
     | succ k2 =>
      have H := HA.out
      clear HA
      simp only [spileref13_Same.l0] at H
      by_cases c14 : x5_2 < (l0_0.length : Int)
      ·
       rw [if_pos c14] at H
       have c14b0 : decide (x5_2 < (l0_0.length : Int)) = true := decide_eq_true c14
       clear c14
       by_cases c15 : 0 ≤ x5_2
       ·
        rw [if_pos c15] at H
        have c15b0 : decide (0 ≤ x5_2) = true := decide_eq_true c15
        clear c15
        by_cases c16 : x5_2 < (l1_0.length : Int)
        ·
         rw [if_pos c16] at H
         have c16b0 : decide (x5_2 < (l1_0.length : Int)) = true := decide_eq_true c16
         clear c16
         by_cases c17 : (!(((rd_T39 l0_0 x5_2).f0) == ((rd_T39 l1_0 x5_2).f0)) || (!(((rd_T39 l0_0 x5_2).f1) == ((rd_T39 l1_0 x5_2).f1)))) = true
         ·
          rw [if_pos c17] at H
          have c17b0 : (!(((rd_T39 l0_0 x5_2).f0) == ((rd_T39 l1_0 x5_2).f0)) || (!(((rd_T39 l0_0 x5_2).f1) == ((rd_T39 l1_0 x5_2).f1)))) = true := c17
          clear c17
          obtain rfl := Option.some.inj H
          have hnb18 := NB140_141.out
          have hnc18 := NB141_140.out
          have hcz19_0 : wr.cell? ⟨gb140, 0, none⟩ = some (.slice A0_0 l0_0.length c0_0) := (blk_cell BK140.out 0).trans rfl
          have hcz19_1 : wr.cell? ⟨gb140, 1, none⟩ = some (.int .i64 a0_1) := (blk_cell BK140.out 1).trans rfl
          have hfz19_0 := blk_frozen BK140.out 0
          have hfz19_1 := blk_frozen BK140.out 1
          have p142 : 0 ≤ (x5_2 : Int) := of_decide_eq_true (by first | (with_reducible assumption) | assumption)
          have q142 : x5_2 < (l0_0.length : Int) := of_decide_eq_true (by first | (with_reducible assumption) | assumption)
          obtain ⟨ad142, e142, hx142_0, hx142_1⟩ := at_T39 HR0_0.out x5_2 p142 q142
          cases e142
          replace hx142_0 := (HB.out.cell (World.block_lt_of_cell? w _ hx142_0)).trans hx142_0
          replace hx142_1 := (HB.out.cell (World.block_lt_of_cell? w _ hx142_1)).trans hx142_1
          replace p142 := eq_true p142
          replace q142 := eq_true q142
          have hcz20_0 : wr.cell? ⟨gb141, 0, none⟩ = some (.slice A1_0 l1_0.length c1_0) := (blk_cell BK141.out 0).trans rfl
          have hcz20_1 : wr.cell? ⟨gb141, 1, none⟩ = some (.int .i64 a1_1) := (blk_cell BK141.out 1).trans rfl
          have hfz20_0 := blk_frozen BK141.out 0
          have hfz20_1 := blk_frozen BK141.out 1
          have p143 : 0 ≤ (x5_2 : Int) := of_decide_eq_true (by first | (with_reducible assumption) | assumption)
          have q143 : x5_2 < (l1_0.length : Int) := of_decide_eq_true (by first | (with_reducible assumption) | assumption)
          obtain ⟨ad143, e143, hx143_0, hx143_1⟩ := at_T39 HR1_0.out x5_2 p143 q143
          cases e143
          replace hx143_0 := (HB.out.cell (World.block_lt_of_cell? w _ hx143_0)).trans hx143_0
          replace hx143_1 := (HB.out.cell (World.block_lt_of_cell? w _ hx143_1)).trans hx143_1
          replace p143 := eq_true p143
          replace q143 := eq_true q143
          go_wp2
          repeat (go_quiet (fail); try go_wp2)
          go_ret
          exact ⟨by first | rfl | (simp [errW_none, errW_some] <;> rfl) | (simp [*, errW_none, errW_some] <;> rfl), by repeat (first | (with_reducible first | exact HB.out | apply below_alloc | apply pw_below_drewN | apply below_drew1 | refine below_set ?_ GE140.out | refine below_set ?_ GE141.out) | exact HB.out)⟩
         ·
          rw [if_neg c17] at H
          have c17b0 : (!(((rd_T39 l0_0 x5_2).f0) == ((rd_T39 l1_0 x5_2).f0)) || (!(((rd_T39 l0_0 x5_2).f1) == ((rd_T39 l1_0 x5_2).f1)))) = false := by simpa using c17
          clear c17
          have H' := Aside0.mk H
          clear H
          have hnb21 := NB140_141.out
          have hnc21 := NB141_140.out
          have hcz22_0 : wr.cell? ⟨gb140, 0, none⟩ = some (.slice A0_0 l0_0.length c0_0) := (blk_cell BK140.out 0).trans rfl
          have hcz22_1 : wr.cell? ⟨gb140, 1, none⟩ = some (.int .i64 a0_1) := (blk_cell BK140.out 1).trans rfl
          have hfz22_0 := blk_frozen BK140.out 0
          have hfz22_1 := blk_frozen BK140.out 1
          have p142 : 0 ≤ (x5_2 : Int) := of_decide_eq_true (by first | (with_reducible assumption) | assumption)
          have q142 : x5_2 < (l0_0.length : Int) := of_decide_eq_true (by first | (with_reducible assumption) | assumption)
          obtain ⟨ad142, e142, hx142_0, hx142_1⟩ := at_T39 HR0_0.out x5_2 p142 q142
          cases e142
          replace hx142_0 := (HB.out.cell (World.block_lt_of_cell? w _ hx142_0)).trans hx142_0
          replace hx142_1 := (HB.out.cell (World.block_lt_of_cell? w _ hx142_1)).trans hx142_1
          replace p142 := eq_true p142
          replace q142 := eq_true q142
          have hcz23_0 : wr.cell? ⟨gb141, 0, none⟩ = some (.slice A1_0 l1_0.length c1_0) := (blk_cell BK141.out 0).trans rfl
          have hcz23_1 : wr.cell? ⟨gb141, 1, none⟩ = some (.int .i64 a1_1) := (blk_cell BK141.out 1).trans rfl
          have hfz23_0 := blk_frozen BK141.out 0
          have hfz23_1 := blk_frozen BK141.out 1
          have p143 : 0 ≤ (x5_2 : Int) := of_decide_eq_true (by first | (with_reducible assumption) | assumption)
          have q143 : x5_2 < (l1_0.length : Int) := of_decide_eq_true (by first | (with_reducible assumption) | assumption)
          obtain ⟨ad143, e143, hx143_0, hx143_1⟩ := at_T39 HR1_0.out x5_2 p143 q143
          cases e143
          replace hx143_0 := (HB.out.cell (World.block_lt_of_cell? w _ hx143_0)).trans hx143_0
          replace hx143_1 := (HB.out.cell (World.block_lt_of_cell? w _ hx143_1)).trans hx143_1
          replace p143 := eq_true p143
          replace q143 := eq_true q143
          go_wp2
          repeat (go_quiet (fail); try go_wp2)
          go_roundg k2
          case measure => have := HJ2.out; have := HK2.out; omega
          case rel => exact ⟨(wrap64 (x5_2 + 1)), (by first | rfl | (simp; done) | (simp [*]; done)), H', ⟨by have := HJ2.out; have := HK2.out; omega⟩, ⟨by (with_reducible repeat (first | refine blk_drewN ?_ _ | refine blk_drew ?_ | refine blk_alloc ?_ _)); exact BK140.out⟩, ⟨by (with_reducible repeat (first | refine blk_drewN ?_ _ | refine blk_drew ?_ | refine blk_alloc ?_ _)); exact BK141.out⟩, ⟨by repeat (first | (with_reducible first | exact HB.out | apply below_alloc | apply pw_below_drewN | apply below_drew1 | refine below_set ?_ GE140.out | refine below_set ?_ GE141.out) | exact HB.out)⟩⟩
        ·
         rw [if_neg c16] at H
         exact absurd H (by simp)
       ·
        rw [if_neg c15] at H
        exact absurd H (by simp)
      ·
       rw [if_neg c14] at H
       have c14b0 : decide (x5_2 < (l0_0.length : Int)) = false := decide_eq_false c14
       clear c14
       obtain rfl := Option.some.inj H
       have hnb24 := NB140_141.out
       have hnc24 := NB141_140.out
       have hcz25_0 : wr.cell? ⟨gb140, 0, none⟩ = some (.slice A0_0 l0_0.length c0_0) := (blk_cell BK140.out 0).trans rfl
       have hcz25_1 : wr.cell? ⟨gb140, 1, none⟩ = some (.int .i64 a0_1) := (blk_cell BK140.out 1).trans rfl
       have hfz25_0 := blk_frozen BK140.out 0
       have hfz25_1 := blk_frozen BK140.out 1
       go_wp2
       repeat (go_quiet (fail); try go_wp2)
       go_ret
       exact ⟨by first | rfl | (simp [errW_none, errW_some] <;> rfl) | (simp [*, errW_none, errW_some] <;> rfl), by repeat (first | (with_reducible first | exact HB.out | apply below_alloc | apply pw_below_drewN | apply below_drew1 | refine below_set ?_ GE140.out | refine below_set ?_ GE141.out) | exact HB.out)⟩
def spileref14_Same.f (k : Nat) (l0 : List (S39)) (l1 : List (S39)) : Option (Bool) := (spileref13_Same.f k l0 0 l1 0).bind fun t144 => (some t144)
set_option maxHeartbeats 8000000 in
set_option maxRecDepth 100000 in
theorem spileref14_Same.calls (k : Nat) (A0 : Option Addr) (c0 : Nat) (l0 : List (S39)) (A1 : Option Addr) (c1 : Nat) (l1 : List (S39)) (r : Bool) (w : World) (hr0 : Kd.C k39 w A0 l0.length l0) (hc0 : l0.length ≤ c0) (hr1 : Kd.C k39 w A1 l1.length l1) (hc1 : l1.length ≤ c1) (h : spileref14_Same.f k l0 l1 = some r) :
  Calls Tryd.prog 15 #[.slice A0 l0.length c0, .slice A1 l1.length c1] w fun e w' => e = .returned (.bool r) ∧ Below w.heap.size w w' := by
 have hu24 := Tryd.underlying24
 have HR0 := Aside0.mk hr0
 have HC0 := Aside0.mk hc0
 clear hr0 hc0
 have HR1 := Aside0.mk hr1
 have HC1 := Aside0.mk hc1
 clear hr1 hc1
 have HB := Aside0.mk (Below.refl w.heap.size w)
 have H : ((spileref13_Same.f k l0 0 l1 0).bind fun t144 => (some t144)) = some r := h
 clear h
 replace H := Option.bind_eq_some_iff.mp H
 obtain ⟨t144, A30, H⟩ := H
 replace H : (some t144) = some r := H
 have A3 := Aside0.mk A30
 clear A30
 obtain rfl := Option.some.inj H
 go_enter Tryd.func15, Tryd.ntmps15
 go_wp2_with (first | ((with_reducible refine gate_callee (f := 37) rfl ?_); refine goesL_ (some 9) rfl rfl Tryd.func37 (by kernel_rfl) rfl #[.agg #[.slice A0 l0.length c0, .int .i64 0], .agg #[.slice A1 l1.length c1, .int .i64 0]] rfl (by (try simp only [List.map_toArray, List.map_cons, List.map_nil]); first | done | rfl | (simp only [List.length_drop, List.length_take]; rfl)) ?_; (with_reducible refine (spileref13_Same.calls k _ _ l0 0 _ _ l1 0 t144 _ ?side1 ?side2 ?side3 ?side4 A3.out).mono ?_); (case side1 => repeat (first | exact HR0.out | (with_reducible refine Kd.C_alloc ?_ _) | (with_reducible refine Kd.C_drewN ?_ _) | (with_reducible refine Kd.C_drew ?_))); (case side2 => exact HC0.out); (case side3 => repeat (first | exact HR1.out | (with_reducible refine Kd.C_alloc ?_ _) | (with_reducible refine Kd.C_drewN ?_ _) | (with_reducible refine Kd.C_drew ?_))); (case side4 => exact HC1.out); rintro e w4 ⟨rfl, hb⟩; refine ⟨_, rfl, ?_⟩; have n0_ := Aside0.mk (below_step (by repeat (first | (with_reducible first | exact HB.out | apply below_alloc | apply pw_below_drewN | apply below_drew1) | exact HB.out)) hb); clear HB; have HB := n0_; clear n0_; (try clear hb); (try clear hb2); (try clear hk); (try clear hi)))
 go_ret
 exact ⟨by first | rfl | (simp [errW_none, errW_some] <;> rfl) | (simp [*, errW_none, errW_some] <;> rfl), by repeat (first | (with_reducible first | exact HB.out | apply below_alloc | apply pw_below_drewN | apply below_drew1) | exact HB.out)⟩
def rod_Check_1.f (a0_0 : Int) (a0_1 : Int) : Option (Bool) := if a0_0 < 0 then (some true) else (if a0_0 > 200000 then (some true) else (if a0_1 < 1 then (some true) else (some (decide (a0_1 > 4294967296)))))
set_option maxHeartbeats 8000000 in
set_option maxRecDepth 100000 in
theorem rod_Check_1.calls (a0_0 : Int) (a0_1 : Int) (r : Bool) (w : World) (h : rod_Check_1.f a0_0 a0_1 = some r) :
  Calls Tryd.prog 41 #[.agg #[.int .i64 a0_0, .int .i64 a0_1]] w fun e w' => e = .returned (.bool r) ∧ Below w.heap.size w w' := by
 have hu39 := Tryd.underlying39
 have HB := Aside0.mk (Below.refl w.heap.size w)
 have H : (if a0_0 < 0 then (some true) else (if a0_0 > 200000 then (some true) else (if a0_1 < 1 then (some true) else (some (decide (a0_1 > 4294967296)))))) = some r := h
 clear h
 by_cases c2 : a0_0 < 0
 ·
  rw [if_pos c2] at H
  have c2b0 : decide (a0_0 < 0) = true := decide_eq_true c2
  clear c2
  obtain rfl := Option.some.inj H
  go_enter Tryd.func41, Tryd.ntmps41
  go_wp2_with (first | ((with_reducible refine gate_dst (N := 1) rfl ?_); refine box_event ?hg (N := 1) ?hd (cs := #[.int .i64 a0_0, .int .i64 a0_1]) (t := 39) ?hr ?_; (case hd => rfl); (case hg => rfl); (case hr => first | (go_simp; done) | (go_simp; rfl)); intro gb145 hg w3 hbox hb; have n0_ := Aside0.mk (below_step (by repeat (first | (with_reducible first | exact HB.out | apply below_alloc | apply pw_below_drewN | apply below_drew1) | exact HB.out)) hb); have n1_ := Aside0.mk (hbox); have n2_ := Aside0.mk ((by rw [hg]; exact (below_size (by repeat (first | (with_reducible first | exact HB.out | apply below_alloc | apply pw_below_drewN | apply below_drew1) | exact HB.out))) : w.heap.size ≤ gb145)); have n3_ := Aside0.mk ((by rw [hg]; exact (below_size (by repeat (first | (with_reducible first | exact HB.out | apply below_alloc | apply pw_below_drewN | apply below_drew1) | exact HB.out))) : w.heap.size ≤ gb145)); clear HB; have HB := n0_; have BK145 := n1_; have GW145 := n2_; have GE145 := n3_; clear n0_ n1_ n2_ n3_; clear hb hbox hg; have hcz4_0 : w3.cell? ⟨gb145, 0, none⟩ = some (.int .i64 a0_0) := (blk_cell BK145.out 0).trans rfl; have hcz4_1 : w3.cell? ⟨gb145, 1, none⟩ = some (.int .i64 a0_1) := (blk_cell BK145.out 1).trans rfl; have hfz4_0 := blk_frozen BK145.out 0; have hfz4_1 := blk_frozen BK145.out 1))
  go_ret
  exact ⟨by first | rfl | (simp [errW_none, errW_some] <;> rfl) | (simp [*, errW_none, errW_some] <;> rfl), by repeat (first | (with_reducible first | exact HB.out | apply below_alloc | apply pw_below_drewN | apply below_drew1 | refine below_set ?_ GE145.out) | exact HB.out)⟩
 ·
  rw [if_neg c2] at H
  have c2b0 : decide (a0_0 < 0) = false := decide_eq_false c2
  clear c2
  by_cases c5 : a0_0 > 200000
  ·
   rw [if_pos c5] at H
   have c5b0 : decide (200000 < a0_0) = true := decide_eq_true c5
   clear c5
   obtain rfl := Option.some.inj H
   go_enter Tryd.func41, Tryd.ntmps41
   go_wp2_with (first | ((with_reducible refine gate_dst (N := 1) rfl ?_); refine box_event ?hg (N := 1) ?hd (cs := #[.int .i64 a0_0, .int .i64 a0_1]) (t := 39) ?hr ?_; (case hd => rfl); (case hg => rfl); (case hr => first | (go_simp; done) | (go_simp; rfl)); intro gb145 hg w6 hbox hb; have n0_ := Aside0.mk (below_step (by repeat (first | (with_reducible first | exact HB.out | apply below_alloc | apply pw_below_drewN | apply below_drew1) | exact HB.out)) hb); have n1_ := Aside0.mk (hbox); have n2_ := Aside0.mk ((by rw [hg]; exact (below_size (by repeat (first | (with_reducible first | exact HB.out | apply below_alloc | apply pw_below_drewN | apply below_drew1) | exact HB.out))) : w.heap.size ≤ gb145)); have n3_ := Aside0.mk ((by rw [hg]; exact (below_size (by repeat (first | (with_reducible first | exact HB.out | apply below_alloc | apply pw_below_drewN | apply below_drew1) | exact HB.out))) : w.heap.size ≤ gb145)); clear HB; have HB := n0_; have BK145 := n1_; have GW145 := n2_; have GE145 := n3_; clear n0_ n1_ n2_ n3_; clear hb hbox hg; have hcz7_0 : w6.cell? ⟨gb145, 0, none⟩ = some (.int .i64 a0_0) := (blk_cell BK145.out 0).trans rfl; have hcz7_1 : w6.cell? ⟨gb145, 1, none⟩ = some (.int .i64 a0_1) := (blk_cell BK145.out 1).trans rfl; have hfz7_0 := blk_frozen BK145.out 0; have hfz7_1 := blk_frozen BK145.out 1))
   go_ret
   exact ⟨by first | rfl | (simp [errW_none, errW_some] <;> rfl) | (simp [*, errW_none, errW_some] <;> rfl), by repeat (first | (with_reducible first | exact HB.out | apply below_alloc | apply pw_below_drewN | apply below_drew1 | refine below_set ?_ GE145.out) | exact HB.out)⟩
  ·
   rw [if_neg c5] at H
   have c5b0 : decide (200000 < a0_0) = false := decide_eq_false c5
   clear c5
   by_cases c8 : a0_1 < 1
   ·
    rw [if_pos c8] at H
    have c8b0 : decide (a0_1 < 1) = true := decide_eq_true c8
    clear c8
    obtain rfl := Option.some.inj H
    go_enter Tryd.func41, Tryd.ntmps41
    go_wp2_with (first | ((with_reducible refine gate_dst (N := 1) rfl ?_); refine box_event ?hg (N := 1) ?hd (cs := #[.int .i64 a0_0, .int .i64 a0_1]) (t := 39) ?hr ?_; (case hd => rfl); (case hg => rfl); (case hr => first | (go_simp; done) | (go_simp; rfl)); intro gb145 hg w9 hbox hb; have n0_ := Aside0.mk (below_step (by repeat (first | (with_reducible first | exact HB.out | apply below_alloc | apply pw_below_drewN | apply below_drew1) | exact HB.out)) hb); have n1_ := Aside0.mk (hbox); have n2_ := Aside0.mk ((by rw [hg]; exact (below_size (by repeat (first | (with_reducible first | exact HB.out | apply below_alloc | apply pw_below_drewN | apply below_drew1) | exact HB.out))) : w.heap.size ≤ gb145)); have n3_ := Aside0.mk ((by rw [hg]; exact (below_size (by repeat (first | (with_reducible first | exact HB.out | apply below_alloc | apply pw_below_drewN | apply below_drew1) | exact HB.out))) : w.heap.size ≤ gb145)); clear HB; have HB := n0_; have BK145 := n1_; have GW145 := n2_; have GE145 := n3_; clear n0_ n1_ n2_ n3_; clear hb hbox hg; have hcz10_0 : w9.cell? ⟨gb145, 0, none⟩ = some (.int .i64 a0_0) := (blk_cell BK145.out 0).trans rfl; have hcz10_1 : w9.cell? ⟨gb145, 1, none⟩ = some (.int .i64 a0_1) := (blk_cell BK145.out 1).trans rfl; have hfz10_0 := blk_frozen BK145.out 0; have hfz10_1 := blk_frozen BK145.out 1))
    go_ret
    exact ⟨by first | rfl | (simp [errW_none, errW_some] <;> rfl) | (simp [*, errW_none, errW_some] <;> rfl), by repeat (first | (with_reducible first | exact HB.out | apply below_alloc | apply pw_below_drewN | apply below_drew1 | refine below_set ?_ GE145.out) | exact HB.out)⟩
   ·
    rw [if_neg c8] at H
    have c8b0 : decide (a0_1 < 1) = false := decide_eq_false c8
    clear c8
    obtain rfl := Option.some.inj H
    go_enter Tryd.func41, Tryd.ntmps41
    go_wp2_with (first | ((with_reducible refine gate_dst (N := 1) rfl ?_); refine box_event ?hg (N := 1) ?hd (cs := #[.int .i64 a0_0, .int .i64 a0_1]) (t := 39) ?hr ?_; (case hd => rfl); (case hg => rfl); (case hr => first | (go_simp; done) | (go_simp; rfl)); intro gb145 hg w11 hbox hb; have n0_ := Aside0.mk (below_step (by repeat (first | (with_reducible first | exact HB.out | apply below_alloc | apply pw_below_drewN | apply below_drew1) | exact HB.out)) hb); have n1_ := Aside0.mk (hbox); have n2_ := Aside0.mk ((by rw [hg]; exact (below_size (by repeat (first | (with_reducible first | exact HB.out | apply below_alloc | apply pw_below_drewN | apply below_drew1) | exact HB.out))) : w.heap.size ≤ gb145)); have n3_ := Aside0.mk ((by rw [hg]; exact (below_size (by repeat (first | (with_reducible first | exact HB.out | apply below_alloc | apply pw_below_drewN | apply below_drew1) | exact HB.out))) : w.heap.size ≤ gb145)); clear HB; have HB := n0_; have BK145 := n1_; have GW145 := n2_; have GE145 := n3_; clear n0_ n1_ n2_ n3_; clear hb hbox hg; have hcz12_0 : w11.cell? ⟨gb145, 0, none⟩ = some (.int .i64 a0_0) := (blk_cell BK145.out 0).trans rfl; have hcz12_1 : w11.cell? ⟨gb145, 1, none⟩ = some (.int .i64 a0_1) := (blk_cell BK145.out 1).trans rfl; have hfz12_0 := blk_frozen BK145.out 0; have hfz12_1 := blk_frozen BK145.out 1))
    go_ret
    exact ⟨by first | rfl | (simp [errW_none, errW_some] <;> rfl) | (simp [*, errW_none, errW_some] <;> rfl), by repeat (first | (with_reducible first | exact HB.out | apply below_alloc | apply pw_below_drewN | apply below_drew1 | refine below_set ?_ GE145.out) | exact HB.out)⟩
def api_Mark_38_at_41.l0 : Nat → List (S39) → Int → Int → Option (Int)
 | 0, _, _, _ => none
 | k + 1, x0, x7, x8 => if x8 < x7 then (if 0 ≤ x8 then (if x8 < (x0.length : Int) then ((rod_Check_1.f ((rd_T39 x0 x8).f0) ((rd_T39 x0 x8).f1)).bind fun t147 => (if t147 = true then (some x8) else (api_Mark_38_at_41.l0 k x0 x7 (wrap64 (x8 + 1))))) else (none)) else (none)) else (some (-1))
def api_Mark_38_at_41.f (k : Nat) (l0 : List (S39))  : Option (Int) := api_Mark_38_at_41.l0 k l0 (l0.length : Int) 0
set_option maxHeartbeats 8000000 in
set_option maxRecDepth 100000 in
theorem api_Mark_38_at_41.calls (k : Nat) (A0 : Option Addr) (c0 : Nat) (l0 : List (S39))  (r : Int) (w : World) (hr0 : Kd.C k39 w A0 l0.length l0) (hc0 : l0.length ≤ c0) (h : api_Mark_38_at_41.f k l0 = some r) :
  Calls Tryd.prog 38 #[.slice A0 l0.length c0, .func (.func 41) #[] #[]] w fun e w' => e = .returned (.int .i64 r) ∧ Below w.heap.size w w' := by
 have hu39 := Tryd.underlying39
 have HR0 := Aside0.mk hr0
 have HC0 := Aside0.mk hc0
 clear hr0 hc0
 have HB := Aside0.mk (Below.refl w.heap.size w)
 have H : (api_Mark_38_at_41.l0 k l0 (l0.length : Int) 0) = some r := h
 clear h
 have H' := Aside0.mk H
 clear H
 go_enter Tryd.func38, Tryd.ntmps38
 go_wp2
 go_loopg [8] k (fun kq v8 w' => ∃ (x8_1 : Int), v8 = .int .i64 x8_1 ∧ Aside0 (api_Mark_38_at_41.l0 kq l0 (l0.length : Int) x8_1 = some r) ∧ Aside0 (kq ≤ k) ∧ Aside0 (Below w.heap.size w w'))
 case atStart => exact ⟨(0), (by first | rfl | (simp; done) | (simp [*]; done)), H', ⟨Nat.le_refl _⟩, ⟨by repeat (first | (with_reducible first | exact HB.out | apply below_alloc | apply pw_below_drewN | apply below_drew1) | exact HB.out)⟩⟩
 case round =>
  clear H'
  try clear p2
  obtain ⟨x8_1, rfl, HA, HK1, HB⟩ := hrel
  cases gk with
  | zero => exact absurd HA.out (by simp [api_Mark_38_at_41.l0])
  | succ k1 =>
   have H := HA.out
   clear HA
   simp only [api_Mark_38_at_41.l0] at H
   by_cases c3 : x8_1 < (l0.length : Int)
   ·
    rw [if_pos c3] at H
    have c3b0 : decide (x8_1 < (l0.length : Int)) = true := decide_eq_true c3
    clear c3
    by_cases c4 : 0 ≤ x8_1
    ·
     rw [if_pos c4] at H
     have c4b0 : decide (0 ≤ x8_1) = true := decide_eq_true c4
     clear c4
     by_cases c5 : x8_1 < (l0.length : Int)
     ·
      rw [if_pos c5] at H
      have c5b0 : decide (x8_1 < (l0.length : Int)) = true := decide_eq_true c5
      clear c5
      replace H := Option.bind_eq_some_iff.mp H
      obtain ⟨t147, A60, H⟩ := H
      replace H : (if t147 = true then (some x8_1) else (api_Mark_38_at_41.l0 k1 l0 (l0.length : Int) (wrap64 (x8_1 + 1)))) = some r := H
      have A6 := Aside0.mk A60
      clear A60
      by_cases c7 : t147 = true
      ·
       subst c7
       have H1 : (some x8_1) = some r := by rw [if_pos rfl] at H; exact H
       clear H
       have H := H1
       clear H1
       obtain rfl := Option.some.inj H
       have p146 : 0 ≤ (x8_1 : Int) := of_decide_eq_true (by first | (with_reducible assumption) | assumption)
       have q146 : x8_1 < (l0.length : Int) := of_decide_eq_true (by first | (with_reducible assumption) | assumption)
       obtain ⟨ad146, e146, hx146_0, hx146_1⟩ := at_T39 HR0.out x8_1 p146 q146
       cases e146
       replace hx146_0 := (HB.out.cell (World.block_lt_of_cell? w _ hx146_0)).trans hx146_0
       replace hx146_1 := (HB.out.cell (World.block_lt_of_cell? w _ hx146_1)).trans hx146_1
       replace p146 := eq_true p146
       replace q146 := eq_true q146
       go_wp2_with (first | (go_at_call 41; (with_reducible refine (rod_Check_1.calls ((rd_T39 l0 x8_1).f0) ((rd_T39 l0 x8_1).f1) true _ A6.out).mono ?_); rintro e w8 ⟨rfl, hb⟩; have n0_ := Aside0.mk (below_step (by repeat (first | (with_reducible first | exact HB.out | apply below_alloc | apply pw_below_drewN | apply below_drew1) | exact HB.out)) hb); clear HB; have HB := n0_; clear n0_; (try clear hb); (try clear hb2); (try clear hk); (try clear hi)))
       go_ret
       exact ⟨by first | rfl | (simp [errW_none, errW_some] <;> rfl) | (simp [*, errW_none, errW_some] <;> rfl), by repeat (first | (with_reducible first | exact HB.out | apply below_alloc | apply pw_below_drewN | apply below_drew1) | exact HB.out)⟩
      ·
       replace c7 := Bool.eq_false_iff.mpr c7
       subst c7
       have H1 : (api_Mark_38_at_41.l0 k1 l0 (l0.length : Int) (wrap64 (x8_1 + 1))) = some r := by rw [if_neg (show ¬ (false = true) by decide)] at H; exact H
       clear H
       have H := H1
       clear H1
       have H' := Aside0.mk H
       clear H
       have p146 : 0 ≤ (x8_1 : Int) := of_decide_eq_true (by first | (with_reducible assumption) | assumption)
       have q146 : x8_1 < (l0.length : Int) := of_decide_eq_true (by first | (with_reducible assumption) | assumption)
       obtain ⟨ad146, e146, hx146_0, hx146_1⟩ := at_T39 HR0.out x8_1 p146 q146
       cases e146
       replace hx146_0 := (HB.out.cell (World.block_lt_of_cell? w _ hx146_0)).trans hx146_0
       replace hx146_1 := (HB.out.cell (World.block_lt_of_cell? w _ hx146_1)).trans hx146_1
       replace p146 := eq_true p146
       replace q146 := eq_true q146
       go_wp2_with (first | (go_at_call 41; (with_reducible refine (rod_Check_1.calls ((rd_T39 l0 x8_1).f0) ((rd_T39 l0 x8_1).f1) false _ A6.out).mono ?_); rintro e w9 ⟨rfl, hb⟩; have n0_ := Aside0.mk (below_step (by repeat (first | (with_reducible first | exact HB.out | apply below_alloc | apply pw_below_drewN | apply below_drew1) | exact HB.out)) hb); clear HB; have HB := n0_; clear n0_; (try clear hb); (try clear hb2); (try clear hk); (try clear hi)))
       go_roundg k1
       case measure => have := HK1.out; omega
       case rel => exact ⟨(wrap64 (x8_1 + 1)), (by first | rfl | (simp; done) | (simp [*]; done)), H', ⟨by have := HK1.out; omega⟩, ⟨by repeat (first | (with_reducible first | exact HB.out | apply below_alloc | apply pw_below_drewN | apply below_drew1) | exact HB.out)⟩⟩
     ·
      rw [if_neg c5] at H
      exact absurd H (by simp)
    ·
     rw [if_neg c4] at H
     exact absurd H (by simp)
   ·
    rw [if_neg c3] at H
    have c3b0 : decide (x8_1 < (l0.length : Int)) = false := decide_eq_false c3
    clear c3
    obtain rfl := Option.some.inj H
    go_wp2
    go_ret
    exact ⟨by first | rfl | (simp [errW_none, errW_some] <;> rfl) | (simp [*, errW_none, errW_some] <;> rfl), by repeat (first | (with_reducible first | exact HB.out | apply below_alloc | apply pw_below_drewN | apply below_drew1) | exact HB.out)⟩
def api_Mark_28_at_41.f (k : Nat) (l0 : List (S39))  : Option (Bool) := (api_Mark_38_at_41.f k l0).bind fun t146 => (some (decide (t146 ≥ 0)))
set_option maxHeartbeats 8000000 in
set_option maxRecDepth 100000 in
theorem api_Mark_28_at_41.calls (k : Nat) (A0 : Option Addr) (c0 : Nat) (l0 : List (S39))  (r : Bool) (w : World) (hr0 : Kd.C k39 w A0 l0.length l0) (hc0 : l0.length ≤ c0) (h : api_Mark_28_at_41.f k l0 = some r) :
  Calls Tryd.prog 28 #[.slice A0 l0.length c0, .func (.func 41) #[] #[]] w fun e w' => e = .returned (.bool r) ∧ Below w.heap.size w w' := by
 have HR0 := Aside0.mk hr0
 have HC0 := Aside0.mk hc0
 clear hr0 hc0
 have HB := Aside0.mk (Below.refl w.heap.size w)
 have H : ((api_Mark_38_at_41.f k l0).bind fun t146 => (some (decide (t146 ≥ 0)))) = some r := h
 clear h
 replace H := Option.bind_eq_some_iff.mp H
 obtain ⟨t146, A30, H⟩ := H
 replace H : (some (decide (t146 ≥ 0))) = some r := H
 have A3 := Aside0.mk A30
 clear A30
 obtain rfl := Option.some.inj H
 go_enter Tryd.func28, Tryd.ntmps28
 go_wp2_with (first | ((with_reducible refine gate_callee (f := 38) rfl ?_); refine goesL_ (some 7) rfl rfl Tryd.func38 (by kernel_rfl) rfl #[.slice A0 l0.length c0, .func (.func 41) #[] #[]] rfl (by (try simp only [List.map_toArray, List.map_cons, List.map_nil]); first | done | rfl | (simp only [List.length_drop, List.length_take]; rfl)) ?_; (with_reducible refine (api_Mark_38_at_41.calls k _ _ l0 t146 _ ?side1 ?side2 A3.out).mono ?_); (case side1 => repeat (first | exact HR0.out | (with_reducible refine Kd.C_alloc ?_ _) | (with_reducible refine Kd.C_drewN ?_ _) | (with_reducible refine Kd.C_drew ?_))); (case side2 => exact HC0.out); rintro e w4 ⟨rfl, hb⟩; refine ⟨_, rfl, ?_⟩; have n0_ := Aside0.mk (below_step (by repeat (first | (with_reducible first | exact HB.out | apply below_alloc | apply pw_below_drewN | apply below_drew1) | exact HB.out)) hb); clear HB; have HB := n0_; clear n0_; (try clear hb); (try clear hb2); (try clear hk); (try clear hi)))
 go_ret
 exact ⟨by first | rfl | (simp [errW_none, errW_some] <;> rfl) | (simp [*, errW_none, errW_some] <;> rfl), by repeat (first | (with_reducible first | exact HB.out | apply below_alloc | apply pw_below_drewN | apply below_drew1) | exact HB.out)⟩
def rod_Check.l0 : Nat → List (S39) → Int → Option (Int)
 | 0, _, _ => none
 | k + 1, x0, x3 => if x3 < (x0.length : Int) then (if 0 ≤ (wrap64 (x3 - 1)) then (if (wrap64 (x3 - 1)) < (x0.length : Int) then (if 0 ≤ x3 then (if ((rd_T39 x0 (wrap64 (x3 - 1))).f0) ≥ ((rd_T39 x0 x3).f0) then (some 5) else (if ((rd_T39 x0 (wrap64 (x3 - 1))).f1) ≥ ((rd_T39 x0 x3).f1) then (some 5) else (rod_Check.l0 k x0 (wrap64 (x3 + 1))))) else (none)) else (none)) else (none)) else (some 0)
def rod_Check.f (k : Nat) (l0 : List (S39)) : Option (Int) := if (l0.length : Int) = 0 then (some 9) else (if (l0.length : Int) > 128 then (some 8) else ((api_Mark_28_at_41.f k l0).bind fun t146 => (if t146 = true then (some 2) else (rod_Check.l0 k l0 1))))
set_option maxHeartbeats 8000000 in
set_option maxRecDepth 100000 in
theorem rod_Check.calls (k : Nat) (A0 : Option Addr) (c0 : Nat) (l0 : List (S39)) (r : Int) (w : World) (hr0 : Kd.C k39 w A0 l0.length l0) (hc0 : l0.length ≤ c0) (h : rod_Check.f k l0 = some r) :
  Calls Tryd.prog 21 #[.slice A0 l0.length c0] w fun e w' => e = .returned (.int .i64 r) ∧ Below w.heap.size w w' := by
 have HR0 := Aside0.mk hr0
 have HC0 := Aside0.mk hc0
 clear hr0 hc0
 have HB := Aside0.mk (Below.refl w.heap.size w)
 have H : (if (l0.length : Int) = 0 then (some 9) else (if (l0.length : Int) > 128 then (some 8) else ((api_Mark_28_at_41.f k l0).bind fun t146 => (if t146 = true then (some 2) else (rod_Check.l0 k l0 1))))) = some r := h
 clear h
 by_cases c2 : (l0.length : Int) = 0
 ·
  rw [if_pos c2] at H
  have c2b0 : ((l0.length : Int) == 0) = true := beq_iff_eq.mpr c2
  have c2b1 : ((l0.length : Int) != 0) = false := bne_eq_false_iff_eq.mpr c2
  clear c2
  obtain rfl := Option.some.inj H
  go_enter Tryd.func21, Tryd.ntmps21
  go_wp2
  repeat (go_quiet (fail); try go_wp2)
  go_ret
  exact ⟨by first | rfl | (simp [errW_none, errW_some] <;> rfl) | (simp [*, errW_none, errW_some] <;> rfl), by repeat (first | (with_reducible first | exact HB.out | apply below_alloc | apply pw_below_drewN | apply below_drew1) | exact HB.out)⟩
 ·
  rw [if_neg c2] at H
  have c2b0 : ((l0.length : Int) == 0) = false := beq_eq_false_iff_ne.mpr c2
  have c2b1 : ((l0.length : Int) != 0) = true := bne_iff_ne.mpr c2
  have c2b2 : ¬ (l0 = []) := fun h_ => c2 (by rw [h_]; rfl)
  by_cases c3 : (l0.length : Int) > 128
  ·
   rw [if_pos c3] at H
   have c3b0 : decide (128 < (l0.length : Int)) = true := decide_eq_true c3
   have c3b1 : decide (128 < l0.length) = true := decide_eq_true (by omega)
   clear c3
   obtain rfl := Option.some.inj H
   go_enter Tryd.func21, Tryd.ntmps21
   go_wp2
   repeat (go_quiet (fail); try go_wp2)
   go_ret
   exact ⟨by first | rfl | (simp [errW_none, errW_some] <;> rfl) | (simp [*, errW_none, errW_some] <;> rfl), by repeat (first | (with_reducible first | exact HB.out | apply below_alloc | apply pw_below_drewN | apply below_drew1) | exact HB.out)⟩
  ·
   rw [if_neg c3] at H
   have c3b0 : decide (128 < (l0.length : Int)) = false := decide_eq_false c3
   have c3b1 : decide (128 < l0.length) = false := decide_eq_false (by omega)
   clear c3
   replace H := Option.bind_eq_some_iff.mp H
   obtain ⟨t146, A40, H⟩ := H
   replace H : (if t146 = true then (some 2) else (rod_Check.l0 k l0 1)) = some r := H
   have A4 := Aside0.mk A40
   clear A40
   by_cases c5 : t146 = true
   ·
    subst c5
    have H1 : (some 2) = some r := by rw [if_pos rfl] at H; exact H
    clear H
    have H := H1
    clear H1
    obtain rfl := Option.some.inj H
    go_enter Tryd.func21, Tryd.ntmps21
    go_wp2_with (first | (go_at_call 28; (with_reducible refine (api_Mark_28_at_41.calls k _ _ l0 true _ ?side1 ?side2 A4.out).mono ?_); (case side1 => repeat (first | exact HR0.out | (with_reducible refine Kd.C_alloc ?_ _) | (with_reducible refine Kd.C_drewN ?_ _) | (with_reducible refine Kd.C_drew ?_))); (case side2 => exact HC0.out); rintro e w6 ⟨rfl, hb⟩; have n0_ := Aside0.mk (below_step (by repeat (first | (with_reducible first | exact HB.out | apply below_alloc | apply pw_below_drewN | apply below_drew1) | exact HB.out)) hb); clear HB; have HB := n0_; clear n0_; (try clear hb); (try clear hb2); (try clear hk); (try clear hi)))
    repeat (go_quiet (first | (go_at_call 28; (with_reducible refine (api_Mark_28_at_41.calls k _ _ l0 true _ ?side1 ?side2 A4.out).mono ?_); (case side1 => repeat (first | exact HR0.out | (with_reducible refine Kd.C_alloc ?_ _) | (with_reducible refine Kd.C_drewN ?_ _) | (with_reducible refine Kd.C_drew ?_))); (case side2 => exact HC0.out); rintro e w6 ⟨rfl, hb⟩; have n0_ := Aside0.mk (below_step (by repeat (first | (with_reducible first | exact HB.out | apply below_alloc | apply pw_below_drewN | apply below_drew1) | exact HB.out)) hb); clear HB; have HB := n0_; clear n0_; (try clear hb); (try clear hb2); (try clear hk); (try clear hi))); try go_wp2_with (first | (go_at_call 28; (with_reducible refine (api_Mark_28_at_41.calls k _ _ l0 true _ ?side1 ?side2 A4.out).mono ?_); (case side1 => repeat (first | exact HR0.out | (with_reducible refine Kd.C_alloc ?_ _) | (with_reducible refine Kd.C_drewN ?_ _) | (with_reducible refine Kd.C_drew ?_))); (case side2 => exact HC0.out); rintro e w6 ⟨rfl, hb⟩; have n0_ := Aside0.mk (below_step (by repeat (first | (with_reducible first | exact HB.out | apply below_alloc | apply pw_below_drewN | apply below_drew1) | exact HB.out)) hb); clear HB; have HB := n0_; clear n0_; (try clear hb); (try clear hb2); (try clear hk); (try clear hi))))
    go_ret
    exact ⟨by first | rfl | (simp [errW_none, errW_some] <;> rfl) | (simp [*, errW_none, errW_some] <;> rfl), by repeat (first | (with_reducible first | exact HB.out | apply below_alloc | apply pw_below_drewN | apply below_drew1) | exact HB.out)⟩
   ·
    replace c5 := Bool.eq_false_iff.mpr c5
    subst c5
    have H1 : (rod_Check.l0 k l0 1) = some r := by rw [if_neg (show ¬ (false = true) by decide)] at H; exact H
    clear H
    have H := H1
    clear H1
    have H' := Aside0.mk H
    clear H
    go_enter Tryd.func21, Tryd.ntmps21
    go_wp2_with (first | (go_at_call 28; (with_reducible refine (api_Mark_28_at_41.calls k _ _ l0 false _ ?side1 ?side2 A4.out).mono ?_); (case side1 => repeat (first | exact HR0.out | (with_reducible refine Kd.C_alloc ?_ _) | (with_reducible refine Kd.C_drewN ?_ _) | (with_reducible refine Kd.C_drew ?_))); (case side2 => exact HC0.out); rintro e w7 ⟨rfl, hb⟩; have n0_ := Aside0.mk (below_step (by repeat (first | (with_reducible first | exact HB.out | apply below_alloc | apply pw_below_drewN | apply below_drew1) | exact HB.out)) hb); clear HB; have HB := n0_; clear n0_; (try clear hb); (try clear hb2); (try clear hk); (try clear hi)))
    repeat (go_quiet (first | (go_at_call 28; (with_reducible refine (api_Mark_28_at_41.calls k _ _ l0 false _ ?side1 ?side2 A4.out).mono ?_); (case side1 => repeat (first | exact HR0.out | (with_reducible refine Kd.C_alloc ?_ _) | (with_reducible refine Kd.C_drewN ?_ _) | (with_reducible refine Kd.C_drew ?_))); (case side2 => exact HC0.out); rintro e w7 ⟨rfl, hb⟩; have n0_ := Aside0.mk (below_step (by repeat (first | (with_reducible first | exact HB.out | apply below_alloc | apply pw_below_drewN | apply below_drew1) | exact HB.out)) hb); clear HB; have HB := n0_; clear n0_; (try clear hb); (try clear hb2); (try clear hk); (try clear hi))); try go_wp2_with (first | (go_at_call 28; (with_reducible refine (api_Mark_28_at_41.calls k _ _ l0 false _ ?side1 ?side2 A4.out).mono ?_); (case side1 => repeat (first | exact HR0.out | (with_reducible refine Kd.C_alloc ?_ _) | (with_reducible refine Kd.C_drewN ?_ _) | (with_reducible refine Kd.C_drew ?_))); (case side2 => exact HC0.out); rintro e w7 ⟨rfl, hb⟩; have n0_ := Aside0.mk (below_step (by repeat (first | (with_reducible first | exact HB.out | apply below_alloc | apply pw_below_drewN | apply below_drew1) | exact HB.out)) hb); clear HB; have HB := n0_; clear n0_; (try clear hb); (try clear hb2); (try clear hk); (try clear hi))))
    go_loopg [3] k (fun kq v3 w' => ∃ (x3_1 : Int), v3 = .int .i64 x3_1 ∧ Aside0 (rod_Check.l0 kq l0 x3_1 = some r) ∧ Aside0 (kq ≤ k) ∧ Aside0 (Below w.heap.size w w'))
    case atStart => exact ⟨(1), (by first | rfl | (simp; done) | (simp [*]; done)), H', ⟨Nat.le_refl _⟩, ⟨by repeat (first | (with_reducible first | exact HB.out | apply below_alloc | apply pw_below_drewN | apply below_drew1) | exact HB.out)⟩⟩
    case round =>
     clear H'
     try clear c2
     try clear c2b0
     try clear c2b1
     try clear c2b2
     try clear p2
     try clear c3
     try clear c3b0
     try clear c3b1
     try clear c5
     obtain ⟨x3_1, rfl, HA, HK1, HB⟩ := hrel
     cases gk with
     | zero => exact absurd HA.out (by simp [rod_Check.l0])
     | succ k1 =>
      have H := HA.out
      clear HA
      simp only [rod_Check.l0] at H
      by_cases c8 : x3_1 < (l0.length : Int)
      ·
       rw [if_pos c8] at H
       have c8b0 : decide (x3_1 < (l0.length : Int)) = true := decide_eq_true c8
       clear c8
       obtain ⟨ji9, hji9⟩ : ∃ j_ : Int, (wrap64 (x3_1 - 1)) = j_ := ⟨_, rfl⟩
       replace H : (if 0 ≤ (ji9) then (if (ji9) < (l0.length : Int) then (if 0 ≤ x3_1 then (if ((rd_T39 l0 (ji9)).f0) ≥ ((rd_T39 l0 x3_1).f0) then (some 5) else (if ((rd_T39 l0 (ji9)).f1) ≥ ((rd_T39 l0 x3_1).f1) then (some 5) else (rod_Check.l0 k1 l0 (wrap64 (x3_1 + 1))))) else (none)) else (none)) else (none)) = some r := by first | (rw [hji9] at H; exact H) | (simp only [hji9] at H ⊢; exact H)
       have hji9w : (IntKind.i64.wrap (x3_1 - 1)) = ji9 := (i64_w _).trans hji9
       by_cases c10 : 0 ≤ (ji9)
       ·
        rw [if_pos c10] at H
        have c10b0 : decide (0 ≤ (ji9)) = true := decide_eq_true c10
        clear c10
        by_cases c11 : (ji9) < (l0.length : Int)
        ·
         rw [if_pos c11] at H
         have c11b0 : decide ((ji9) < (l0.length : Int)) = true := decide_eq_true c11
         clear c11
         by_cases c12 : 0 ≤ x3_1
         ·
          rw [if_pos c12] at H
          have c12b0 : decide (0 ≤ x3_1) = true := decide_eq_true c12
          clear c12
          by_cases c13 : ((rd_T39 l0 (ji9)).f0) ≥ ((rd_T39 l0 x3_1).f0)
          ·
           rw [if_pos c13] at H
           have c13b0 : decide (((rd_T39 l0 x3_1).f0) ≤ ((rd_T39 l0 (ji9)).f0)) = true := decide_eq_true c13
           clear c13
           obtain rfl := Option.some.inj H
           have p147 : 0 ≤ ((ji9) : Int) := of_decide_eq_true (by first | (with_reducible assumption) | assumption)
           have q147 : (ji9) < (l0.length : Int) := of_decide_eq_true (by first | (with_reducible assumption) | assumption)
           obtain ⟨ad147, e147, hx147_0, hx147_1⟩ := at_T39 HR0.out (ji9) p147 q147
           cases e147
           replace hx147_0 := (HB.out.cell (World.block_lt_of_cell? w _ hx147_0)).trans hx147_0
           replace hx147_1 := (HB.out.cell (World.block_lt_of_cell? w _ hx147_1)).trans hx147_1
           replace p147 := eq_true p147
           replace q147 := eq_true q147
           have p148 : 0 ≤ (x3_1 : Int) := of_decide_eq_true (by first | (with_reducible assumption) | assumption)
           have q148 : x3_1 < (l0.length : Int) := of_decide_eq_true (by first | (with_reducible assumption) | assumption)
           obtain ⟨ad148, e148, hx148_0, hx148_1⟩ := at_T39 HR0.out x3_1 p148 q148
           obtain rfl : ad147 = ad148 := (by injection e148)
           replace hx148_0 := (HB.out.cell (World.block_lt_of_cell? w _ hx148_0)).trans hx148_0
           replace hx148_1 := (HB.out.cell (World.block_lt_of_cell? w _ hx148_1)).trans hx148_1
           replace p148 := eq_true p148
           replace q148 := eq_true q148
           go_wp2
           repeat (go_quiet (fail); try go_wp2)
           go_ret
           exact ⟨by first | rfl | (simp [errW_none, errW_some] <;> rfl) | (simp only [← hji9]; first | rfl | (simp [errW_none, errW_some] <;> rfl)) | (simp [*, errW_none, errW_some] <;> rfl), by repeat (first | (with_reducible first | exact HB.out | apply below_alloc | apply pw_below_drewN | apply below_drew1) | exact HB.out)⟩
          ·
           rw [if_neg c13] at H
           have c13b0 : decide (((rd_T39 l0 x3_1).f0) ≤ ((rd_T39 l0 (ji9)).f0)) = false := decide_eq_false c13
           clear c13
           by_cases c14 : ((rd_T39 l0 (ji9)).f1) ≥ ((rd_T39 l0 x3_1).f1)
           ·
            rw [if_pos c14] at H
            have c14b0 : decide (((rd_T39 l0 x3_1).f1) ≤ ((rd_T39 l0 (ji9)).f1)) = true := decide_eq_true c14
            clear c14
            obtain rfl := Option.some.inj H
            have p147 : 0 ≤ ((ji9) : Int) := of_decide_eq_true (by first | (with_reducible assumption) | assumption)
            have q147 : (ji9) < (l0.length : Int) := of_decide_eq_true (by first | (with_reducible assumption) | assumption)
            obtain ⟨ad147, e147, hx147_0, hx147_1⟩ := at_T39 HR0.out (ji9) p147 q147
            cases e147
            replace hx147_0 := (HB.out.cell (World.block_lt_of_cell? w _ hx147_0)).trans hx147_0
            replace hx147_1 := (HB.out.cell (World.block_lt_of_cell? w _ hx147_1)).trans hx147_1
            replace p147 := eq_true p147
            replace q147 := eq_true q147
            have p148 : 0 ≤ (x3_1 : Int) := of_decide_eq_true (by first | (with_reducible assumption) | assumption)
            have q148 : x3_1 < (l0.length : Int) := of_decide_eq_true (by first | (with_reducible assumption) | assumption)
            obtain ⟨ad148, e148, hx148_0, hx148_1⟩ := at_T39 HR0.out x3_1 p148 q148
            obtain rfl : ad147 = ad148 := (by injection e148)
            replace hx148_0 := (HB.out.cell (World.block_lt_of_cell? w _ hx148_0)).trans hx148_0
            replace hx148_1 := (HB.out.cell (World.block_lt_of_cell? w _ hx148_1)).trans hx148_1
            replace p148 := eq_true p148
            replace q148 := eq_true q148
            have p149 : 0 ≤ ((ji9) : Int) := of_decide_eq_true (by first | (with_reducible assumption) | assumption)
            have q149 : (ji9) < (l0.length : Int) := of_decide_eq_true (by first | (with_reducible assumption) | assumption)
            obtain ⟨ad149, e149, hx149_0, hx149_1⟩ := at_T39 HR0.out (ji9) p149 q149
            obtain rfl : ad147 = ad149 := (by injection e149)
            replace hx149_0 := (HB.out.cell (World.block_lt_of_cell? w _ hx149_0)).trans hx149_0
            replace hx149_1 := (HB.out.cell (World.block_lt_of_cell? w _ hx149_1)).trans hx149_1
            replace p149 := eq_true p149
            replace q149 := eq_true q149
            have p150 : 0 ≤ (x3_1 : Int) := of_decide_eq_true (by first | (with_reducible assumption) | assumption)
            have q150 : x3_1 < (l0.length : Int) := of_decide_eq_true (by first | (with_reducible assumption) | assumption)
            obtain ⟨ad150, e150, hx150_0, hx150_1⟩ := at_T39 HR0.out x3_1 p150 q150
            obtain rfl : ad147 = ad150 := (by injection e150)
            replace hx150_0 := (HB.out.cell (World.block_lt_of_cell? w _ hx150_0)).trans hx150_0
            replace hx150_1 := (HB.out.cell (World.block_lt_of_cell? w _ hx150_1)).trans hx150_1
            replace p150 := eq_true p150
            replace q150 := eq_true q150
            go_wp2
            repeat (go_quiet (fail); try go_wp2)
            go_ret
            exact ⟨by first | rfl | (simp [errW_none, errW_some] <;> rfl) | (simp only [← hji9]; first | rfl | (simp [errW_none, errW_some] <;> rfl)) | (simp [*, errW_none, errW_some] <;> rfl), by repeat (first | (with_reducible first | exact HB.out | apply below_alloc | apply pw_below_drewN | apply below_drew1) | exact HB.out)⟩
           ·
            rw [if_neg c14] at H
            have c14b0 : decide (((rd_T39 l0 x3_1).f1) ≤ ((rd_T39 l0 (ji9)).f1)) = false := decide_eq_false c14
            clear c14
            have H' := Aside0.mk H
            clear H
            have p147 : 0 ≤ ((ji9) : Int) := of_decide_eq_true (by first | (with_reducible assumption) | assumption)
            have q147 : (ji9) < (l0.length : Int) := of_decide_eq_true (by first | (with_reducible assumption) | assumption)
            obtain ⟨ad147, e147, hx147_0, hx147_1⟩ := at_T39 HR0.out (ji9) p147 q147
            cases e147
            replace hx147_0 := (HB.out.cell (World.block_lt_of_cell? w _ hx147_0)).trans hx147_0
            replace hx147_1 := (HB.out.cell (World.block_lt_of_cell? w _ hx147_1)).trans hx147_1
            replace p147 := eq_true p147
            replace q147 := eq_true q147
            have p148 : 0 ≤ (x3_1 : Int) := of_decide_eq_true (by first | (with_reducible assumption) | assumption)
            have q148 : x3_1 < (l0.length : Int) := of_decide_eq_true (by first | (with_reducible assumption) | assumption)
            obtain ⟨ad148, e148, hx148_0, hx148_1⟩ := at_T39 HR0.out x3_1 p148 q148
            obtain rfl : ad147 = ad148 := (by injection e148)
            replace hx148_0 := (HB.out.cell (World.block_lt_of_cell? w _ hx148_0)).trans hx148_0
            replace hx148_1 := (HB.out.cell (World.block_lt_of_cell? w _ hx148_1)).trans hx148_1
            replace p148 := eq_true p148
            replace q148 := eq_true q148
            have p149 : 0 ≤ ((ji9) : Int) := of_decide_eq_true (by first | (with_reducible assumption) | assumption)
            have q149 : (ji9) < (l0.length : Int) := of_decide_eq_true (by first | (with_reducible assumption) | assumption)
            obtain ⟨ad149, e149, hx149_0, hx149_1⟩ := at_T39 HR0.out (ji9) p149 q149
            obtain rfl : ad147 = ad149 := (by injection e149)
            replace hx149_0 := (HB.out.cell (World.block_lt_of_cell? w _ hx149_0)).trans hx149_0
            replace hx149_1 := (HB.out.cell (World.block_lt_of_cell? w _ hx149_1)).trans hx149_1
            replace p149 := eq_true p149
            replace q149 := eq_true q149
            have p150 : 0 ≤ (x3_1 : Int) := of_decide_eq_true (by first | (with_reducible assumption) | assumption)
            have q150 : x3_1 < (l0.length : Int) := of_decide_eq_true (by first | (with_reducible assumption) | assumption)
            obtain ⟨ad150, e150, hx150_0, hx150_1⟩ := at_T39 HR0.out x3_1 p150 q150
            obtain rfl : ad147 = ad150 := (by injection e150)
            replace hx150_0 := (HB.out.cell (World.block_lt_of_cell? w _ hx150_0)).trans hx150_0
            replace hx150_1 := (HB.out.cell (World.block_lt_of_cell? w _ hx150_1)).trans hx150_1
            replace p150 := eq_true p150
            replace q150 := eq_true q150
            go_wp2
            repeat (go_quiet (fail); try go_wp2)
            go_roundg k1
            case measure => have := HK1.out; omega
            case rel => exact ⟨(wrap64 (x3_1 + 1)), (by first | rfl | (simp; done) | (simp [*]; done)), H', ⟨by have := HK1.out; omega⟩, ⟨by repeat (first | (with_reducible first | exact HB.out | apply below_alloc | apply pw_below_drewN | apply below_drew1) | exact HB.out)⟩⟩
         ·
          rw [if_neg c12] at H
          exact absurd H (by simp)
        ·
         rw [if_neg c11] at H
         exact absurd H (by simp)
       ·
        rw [if_neg c10] at H
        exact absurd H (by simp)
      ·
       rw [if_neg c8] at H
       have c8b0 : decide (x3_1 < (l0.length : Int)) = false := decide_eq_false c8
       clear c8
       obtain rfl := Option.some.inj H
       go_wp2
       repeat (go_quiet (fail); try go_wp2)
       go_ret
       exact ⟨by first | rfl | (simp [errW_none, errW_some] <;> rfl) | (simp [*, errW_none, errW_some] <;> rfl), by repeat (first | (with_reducible first | exact HB.out | apply below_alloc | apply pw_below_drewN | apply below_drew1) | exact HB.out)⟩
end Go.Proofs.YtkolhpacpbhceaaDoor.Pr
namespace Go.Proofs
open Go.Shelf
def Tryd.lays169_ren : Go.Shelf.Ren := ⟨fun | 169 => 44 | n => n, fun | 70 => 60 | 9 => 9 | 0 => 0 | 72 => 63 | 37 => 61 | 127 => 81 | 3 => 3 | 5 => 5 | n => n, fun | n => n⟩
theorem Tryd.lays169 : Go.Proofs.Lays.n169 Tryd.prog Tryd.lays169_ren := {
  mixed := by kernel_rfl
  f169 := Tryd.func44.trans (congrArg some (by kernel_rfl))
  t0 := Tryd.underlying0
  a0 := Tryd.isAgg0
  z0 := Tryd.sizeOf0
  v0 := Tryd.zeroValue0
  t3 := Tryd.underlying3
  a3 := Tryd.isAgg3
  z3 := Tryd.sizeOf3
  v3 := Tryd.zeroValue3
  t9 := Tryd.underlying9
  a9 := Tryd.isAgg9
  z9 := Tryd.sizeOf9
  v9 := Tryd.zeroValue9
  t37 := Tryd.underlying61
  a37 := Tryd.isAgg61
  z37 := Tryd.sizeOf61
  v37 := Tryd.zeroValue61
  t70 := Tryd.underlying60
  a70 := Tryd.isAgg60
  z70 := Tryd.sizeOf60
  v70 := Tryd.zeroValue60
  t72 := Tryd.underlying63
  a72 := Tryd.isAgg63
  z72 := Tryd.sizeOf63
  v72 := Tryd.zeroValue63
  t127 := Tryd.underlying81
  a127 := Tryd.isAgg81
  z127 := Tryd.sizeOf81
  v127 := Tryd.zeroValue81 }
theorem Tryd.Builder_Extra_169 : Builder.Extra Tryd.prog Tryd.lays169_ren := {
  sizeBuilder := by kernel_rfl
  liesBuilder := by kernel_rfl
  t5 := Tryd.underlying5
  a5 := Tryd.isAgg5
  z5 := Tryd.sizeOf5
  v5 := Tryd.zeroValue5
  infoByte := by kernel_rfl
  cellsByte := by kernel_rfl
  sizeByte := by kernel_rfl
  neB5 := by decide }
open Go.RowKit in
/-- (*strings.Builder).String: "String returns the accumulated string.": WHATEVER THE BUILDER HOLDS; THE FORM '_k': OVER 'Lib.IsBuilderF' (a builder that 'String()' may have read), AND WITH THE FRAME THAT REACHES ABOVE THE BUILDER: 'Lib.OthersKept': every block that is not b and is no row of uint8's stands as it stood: the iterator of a range among them. (LAID: no walk: one application.) -/
theorem Tryd.Builder_String_any_k (B b : Nat) (l : List UInt8) (w : World) (h : Lib.IsBuilderF 63 5 B b (Lib.byteCells l) w) (hBw : B ≤ w.heap.size) :
    Calls Tryd.prog 44 #[.pointer (some ⟨b, 0, none⟩)] w fun e w' => e = .returned (.string ⟨l.toArray⟩) ∧ (Lib.IsBuilderF 63 5 B b (Lib.byteCells l) w' ∧ Below B w w' ∧ Lib.OthersKept 5 (some b) w w') := Any.Builder_String_any_k Tryd.lays169 Tryd.Builder_Extra_169 B b l w h hBw
def Tryd.laysM171_ren : Go.Shelf.Ren := ⟨fun | 171 => 43 | 243 => 55 | 246 => 61 | 283 => 63 | 284 => 64 | 285 => 65 | 286 => 66 | 129 => 72 | 317 => 71 | 318 => 73 | 319 => 74 | 320 => 75 | 337 => 78 | 338 => 79 | n => n, fun | 3 => 3 | 9 => 9 | 2 => 2 | 4 => 4 | 171 => 89 | 0 => 0 | 53 => 90 | 37 => 61 | 5 => 5 | 173 => 93 | 212 => 98 | 51 => 99 | 20 => 20 | 213 => 100 | 46 => 84 | 232 => 105 | 233 => 106 | n => n, fun | 17 => 1 | 18 => 2 | 19 => 3 | n => n⟩
theorem Tryd.laysM171 : Go.Proofs.LaysM.n171 Tryd.prog Tryd.laysM171_ren := {
  mixed := by kernel_rfl
  f129 := Tryd.func72.trans (congrArg some (by kernel_rfl))
  f171 := Tryd.func43.trans (congrArg some (by kernel_rfl))
  f243 := Tryd.func55.trans (congrArg some (by kernel_rfl))
  f246 := Tryd.func61.trans (congrArg some (by kernel_rfl))
  f283 := Tryd.func63.trans (congrArg some (by kernel_rfl))
  f284 := Tryd.func64.trans (congrArg some (by kernel_rfl))
  f285 := Tryd.func65.trans (congrArg some (by kernel_rfl))
  f286 := Tryd.func66.trans (congrArg some (by kernel_rfl))
  f317 := Tryd.func71.trans (congrArg some (by kernel_rfl))
  f318 := Tryd.func73.trans (congrArg some (by kernel_rfl))
  f319 := Tryd.func74.trans (congrArg some (by kernel_rfl))
  f320 := Tryd.func75.trans (congrArg some (by kernel_rfl))
  f337 := Tryd.func78.trans (congrArg some (by kernel_rfl))
  f338 := Tryd.func79.trans (congrArg some (by kernel_rfl))
  t0 := Tryd.underlying0
  a0 := Tryd.isAgg0
  z0 := Tryd.sizeOf0
  v0 := Tryd.zeroValue0
  t2 := Tryd.underlying2
  a2 := Tryd.isAgg2
  z2 := Tryd.sizeOf2
  v2 := Tryd.zeroValue2
  t3 := Tryd.underlying3
  a3 := Tryd.isAgg3
  z3 := Tryd.sizeOf3
  v3 := Tryd.zeroValue3
  t4 := Tryd.underlying4
  a4 := Tryd.isAgg4
  z4 := Tryd.sizeOf4
  v4 := Tryd.zeroValue4
  t5 := Tryd.underlying5
  a5 := Tryd.isAgg5
  z5 := Tryd.sizeOf5
  v5 := Tryd.zeroValue5
  t9 := Tryd.underlying9
  a9 := Tryd.isAgg9
  z9 := Tryd.sizeOf9
  v9 := Tryd.zeroValue9
  t20 := Tryd.underlying20
  a20 := Tryd.isAgg20
  z20 := Tryd.sizeOf20
  v20 := Tryd.zeroValue20
  t37 := Tryd.underlying61
  a37 := Tryd.isAgg61
  z37 := Tryd.sizeOf61
  v37 := Tryd.zeroValue61
  t46 := Tryd.underlying84
  a46 := Tryd.isAgg84
  z46 := Tryd.sizeOf84
  v46 := Tryd.zeroValue84
  t51 := Tryd.underlying99
  a51 := Tryd.isAgg99
  z51 := Tryd.sizeOf99
  v51 := Tryd.zeroValue99
  t53 := Tryd.underlying90
  a53 := Tryd.isAgg90
  z53 := Tryd.sizeOf90
  v53 := Tryd.zeroValue90
  t171 := Tryd.underlying89
  a171 := Tryd.isAgg89
  z171 := Tryd.sizeOf89
  v171 := Tryd.zeroValue89
  t173 := Tryd.underlying93
  a173 := Tryd.isAgg93
  z173 := Tryd.sizeOf93
  v173 := Tryd.zeroValue93
  t212 := Tryd.underlying98
  a212 := Tryd.isAgg98
  z212 := Tryd.sizeOf98
  v212 := Tryd.zeroValue98
  t213 := Tryd.underlying100
  a213 := Tryd.isAgg100
  z213 := Tryd.sizeOf100
  t232 := Tryd.underlying105
  a232 := Tryd.isAgg105
  z232 := Tryd.sizeOf105
  v232 := Tryd.zeroValue105
  t233 := Tryd.underlying106
  a233 := Tryd.isAgg106
  z233 := Tryd.sizeOf106
  v233 := Tryd.zeroValue106
  g17 := by kernel_rfl
  g18 := by kernel_rfl
  g19 := by kernel_rfl
  i0 := by kernel_rfl
  i2 := by kernel_rfl
  i3 := by kernel_rfl
  i4 := by kernel_rfl
  i5 := by kernel_rfl
  i9 := by kernel_rfl
  i20 := by kernel_rfl
  i37 := by kernel_rfl
  i46 := by kernel_rfl
  i51 := by kernel_rfl
  i53 := by kernel_rfl
  i171 := by kernel_rfl
  i173 := by kernel_rfl
  i212 := by kernel_rfl
  i232 := by kernel_rfl
  i233 := by kernel_rfl
  m17 := by kernel_rfl
  m18 := by kernel_rfl
  m19 := by kernel_rfl }
open Go.RowKit Go.Sort Go.Lib in
/-- strconv.Itoa: "Itoa is equivalent to FormatInt(int64(i), 10).": i's DECIMAL NUMERAL ('Lib.itoa': a '-' where i is negative, then the digits), FOR EVERY int. The world behind the call: the world before it, new blocks behind the heap (the library's 'var a [24]byte'), draws. (LAID: no walk: one application.) -/
theorem Tryd.strconv_Itoa (n : Int) (h0 : -9223372036854775808 ≤ n) (h1 : n ≤ 9223372036854775807) (w : World) (htab : Lib.TabIs Tryd.prog w "internal/strconv.uint64pow10" .u64 Lib.pow10Tab) :
    Calls Tryd.prog 43 #[.int .i64 n] w fun e w' => e = .returned (.string ⟨(Lib.itoa n).toArray⟩) ∧ ∃ k os, w' = grow (w.drewN k) os := Any.strconv_Itoa Tryd.laysM171 n h0 h1 w htab
def Tryd.lays145_ren : Go.Shelf.Ren := ⟨fun | 145 => 46 | 220 => 57 | 219 => 62 | 217 => 67 | 225 => 68 | 224 => 69 | 267 => 70 | 266 => 76 | 314 => 77 | n => n, fun | 9 => 9 | 4 => 4 | 59 => 73 | 3 => 3 | 5 => 5 | 46 => 84 | 146 => 102 | 51 => 99 | n => n, fun | 1 => 0 | n => n⟩
theorem Tryd.lays145 : Go.Proofs.Lays.n145 Tryd.prog Tryd.lays145_ren := {
  mixed := by kernel_rfl
  f145 := Tryd.func46.trans (congrArg some (by kernel_rfl))
  f217 := Tryd.func67.trans (congrArg some (by kernel_rfl))
  f219 := Tryd.func62.trans (congrArg some (by kernel_rfl))
  f220 := Tryd.func57.trans (congrArg some (by kernel_rfl))
  f224 := Tryd.func69.trans (congrArg some (by kernel_rfl))
  f225 := Tryd.func68.trans (congrArg some (by kernel_rfl))
  f266 := Tryd.func76.trans (congrArg some (by kernel_rfl))
  f267 := Tryd.func70.trans (congrArg some (by kernel_rfl))
  f314 := Tryd.func77.trans (congrArg some (by kernel_rfl))
  t3 := Tryd.underlying3
  a3 := Tryd.isAgg3
  z3 := Tryd.sizeOf3
  v3 := Tryd.zeroValue3
  t4 := Tryd.underlying4
  a4 := Tryd.isAgg4
  z4 := Tryd.sizeOf4
  v4 := Tryd.zeroValue4
  t5 := Tryd.underlying5
  a5 := Tryd.isAgg5
  z5 := Tryd.sizeOf5
  v5 := Tryd.zeroValue5
  t9 := Tryd.underlying9
  a9 := Tryd.isAgg9
  z9 := Tryd.sizeOf9
  v9 := Tryd.zeroValue9
  t46 := Tryd.underlying84
  a46 := Tryd.isAgg84
  z46 := Tryd.sizeOf84
  v46 := Tryd.zeroValue84
  t51 := Tryd.underlying99
  a51 := Tryd.isAgg99
  z51 := Tryd.sizeOf99
  v51 := Tryd.zeroValue99
  t59 := Tryd.underlying73
  a59 := Tryd.isAgg73
  z59 := Tryd.sizeOf73
  v59 := Tryd.zeroValue73
  t146 := Tryd.underlying102
  a146 := Tryd.isAgg102
  z146 := Tryd.sizeOf102
  v146 := Tryd.zeroValue102
  g1 := by kernel_rfl }
open Go.RowKit Go.Lib in
/-- strings.Cut: "Cut slices s around the first instance of sep, returning the text before and after sep. The found result reports whether sep appears in s. If sep does not appear in s, cut returns s, "", false.": IT RETURNS 'Lib.cut s sep'; the world is as it was but for the count of draws. (LAID: no walk: one application.) -/
theorem Tryd.strings_Cut (s sep : ByteArray) (m : Int) (w : World) (hs : s.size < 4294967281) (hm : w.cell? ⟨0, 0, none⟩ = some (.int .i64 m)) :
    Calls Tryd.prog 46 #[.string s, .string sep] w fun e w' => e = .returned (.tuple #[.string ⟨(Lib.cut s.data.toList sep.data.toList).1.toArray⟩, .string ⟨(Lib.cut s.data.toList sep.data.toList).2.1.toArray⟩, .bool (Lib.cut s.data.toList sep.data.toList).2.2]) ∧ ∃ n, w' = w.drewN n := Any.strings_Cut Tryd.lays145 s sep m w hs hm
end Go.Proofs
namespace Go.Proofs.YtkolhpacpbhceaaDoor.X
open Go Go.Shelf Go.RowKit
set_option maxHeartbeats 2000000 in
set_option maxRecDepth 100000 in
theorem copyCheck_used (b : Nat) (w : World) (h0 : w.cell? ⟨b, 0, none⟩ = some (.pointer (some ⟨b, 0, none⟩))) :
    Calls Tryd.prog 54 #[.pointer (some ⟨b, 0, none⟩)] w fun e w' => e = .returned (.tuple #[]) ∧ w' = w := by
  obtain ⟨j, hj, hjs⟩ : ∃ j, Tryd.prog.info? 63 = some j ∧ j.size = 2 := Option.map_eq_some_iff.1 (by kernel_rfl : (Tryd.prog.info? 63).map (·.size) = some 2)
  go_enter Tryd.func54, Tryd.ntmps54
  go_wp2
  rw [Lib.run_neq_ptr_same w _ Tryd.underlying60 hj]
  go_wp2
  go_end0
  exact ⟨rfl, rfl⟩
set_option maxHeartbeats 2000000 in
set_option maxRecDepth 100000 in
theorem copyCheck_fresh (b : Nat) (w : World) (h0 : w.cell? ⟨b, 0, none⟩ = some (.pointer none)) (hsh : w.shape? b = some (63, 2)) (hfz : w.frozen? ⟨b, 0, none⟩ = false) :
    Calls Tryd.prog 54 #[.pointer (some ⟨b, 0, none⟩)] w fun e w' => e = .returned (.tuple #[]) ∧ w' = w.setCell ⟨b, 0, none⟩ (.pointer (some ⟨b, 0, none⟩)) := by
  obtain ⟨j, hj, hjs⟩ : ∃ j, Tryd.prog.info? 63 = some j ∧ j.size = 2 := Option.map_eq_some_iff.1 (by kernel_rfl : (Tryd.prog.info? 63).map (·.size) = some 2)
  go_enter Tryd.func54, Tryd.ntmps54
  go_wp2
  rw [Lib.run_to_unsafe w ⟨b, 0, none⟩ Tryd.underlying60 Tryd.underlying85 hj (by rw [hjs]; decide) hsh (Nat.zero_lt_succ 1)]
  simp only [Result.andThen]
  rw [Oper.upon_value]
  go_wp2
  rw [run_callFunc_extern Tryd.func60 (by kernel_rfl) (by kernel_rfl) (by kernel_rfl) (e := Extern.AbiNoEscape.same) (by kernel_rfl)]
  rw [Lib.run_noEscape]
  simp only [Result.andThen]
  rw [Oper.upon_value]
  go_wp2
  rw [Lib.run_from_unsafe w ⟨b, 0, none⟩ Tryd.underlying85 Tryd.underlying60 hj hsh (by kernel_rfl)]
  simp only [Result.andThen]
  rw [Oper.upon_value]
  go_wp2
  go_end0
  exact ⟨rfl, rfl⟩
theorem copyCheck (B b : Nat) (bs : List Value) (w : World) (h : Lib.IsBuilderF 63 5 B b bs w) :
    Calls Tryd.prog 54 #[.pointer (some ⟨b, 0, none⟩)] w fun e w' => e = .returned (.tuple #[]) ∧ (Lib.BuilderAtF 63 5 B b (.pointer (some ⟨b, 0, none⟩)) bs w' ∧ Below B w w' ∧ Lib.OthersKept 5 (some b) w w') := by
  rcases h with h | h
  · refine (copyCheck_fresh b w h.cell0 h.shape h.frozen0).mono ?_
    rintro e w' ⟨rfl, rfl⟩
    exact ⟨rfl, h.used _, (Below.refl B w).setCell (p := ⟨b, 0, none⟩) h.1 _, (Lib.OthersKept.refl _ _ w).setCell ⟨b, 0, none⟩ rfl _⟩
  · refine (copyCheck_used b w h.cell0).mono ?_
    rintro e w' ⟨rfl, rfl⟩
    exact ⟨rfl, h, Below.refl B _, Lib.OthersKept.refl _ _ _⟩
set_option maxHeartbeats 4000000 in
set_option maxRecDepth 100000 in
theorem writeString (B b : Nat) (bs : List Value) (s : ByteArray) (w : World) (h : Lib.IsBuilderF 63 5 B b bs w) (hlen : bs.length + s.size ≤ 140737488355328) (hBw : B ≤ w.heap.size) :
    Calls Tryd.prog 42 #[.pointer (some ⟨b, 0, none⟩), .string s] w fun e w' => e = .returned (.tuple #[.int .i64 s.size, .nilIface]) ∧ (Lib.IsBuilderF 63 5 B b (bs ++ Lib.strCells s) w' ∧ Below B w w' ∧ Lib.OthersKept 5 (some b) w w') := by
  obtain ⟨i0, hi, hz0, hz1, hz2⟩ := info_parts (by kernel_rfl : (Tryd.prog.info? 5).map (fun i => (i.zero, i.size, i.bytes)) = some (some (.int .u8 0), 1, 1))
  go_enter Tryd.func42, Tryd.ntmps42
  go_wp2_with (go_at_call 54; refine (copyCheck B b bs _ h).mono ?_)
  rintro e w1 ⟨rfl, h1, hb1, hk1⟩
  obtain ⟨hB, v, hbk, hown, hne⟩ := h1
  have c0 : w1.cell? ⟨b, 0, none⟩ = some (.pointer (some ⟨b, 0, none⟩)) := by rw [Lib.cell_of_heap hbk]; rfl
  have c1 : w1.cell? ⟨b, 1, none⟩ = some v := by rw [Lib.cell_of_heap hbk]; rfl
  go_wp2_with (at_builtin; refine Lib.wpList_append_own_stringF _ rfl _ _ 61 9 rfl B 5 i0 Tryd.underlying61 Tryd.underlying9 hi hz0 hz1 hz2 _ _ _ rfl hown s rfl ?c3 ?c4 ?c5 ?_)
  case c3 => unfold maxLen; omega
  case c4 => omega
  case c5 => have := hb1.size; omega
  intro v' w2 hown' hgrow _
  have hlt : b < w1.heap.size := by
    rcases Nat.lt_or_ge b w1.heap.size with h' | h'
    · exact h'
    · simp [Array.getElem?_eq_none h'] at hbk
  have hb2 : w2.heap[b]? = some (.cells #[.pointer (some ⟨b, 0, none⟩), v] 63 (0, 0)) := by
    rw [hgrow.block b hlt (fun e => hne e.symm)]
    exact hbk
  have d0 : w2.cell? ⟨b, 0, none⟩ = some (.pointer (some ⟨b, 0, none⟩)) := by rw [Lib.cell_of_heap hb2]; rfl
  have d1 : w2.cell? ⟨b, 1, none⟩ = some v := by rw [Lib.cell_of_heap hb2]; rfl
  have f1 : w2.frozen? ⟨b, 1, none⟩ = false := Lib.frozen_of_heap hb2 1
  obtain ⟨ao, n', cap, rfl⟩ : ∃ ao n' cap, v' = .slice ao n' cap := by
    rcases hown'.2 with ⟨hv, _⟩ | ⟨g, cap, cur, fz, hv, _⟩
    · exact ⟨_, _, _, hv⟩
    · exact ⟨_, _, _, hv⟩
  go_wp2
  go_ret2
  refine ⟨rfl, ?_, ?_, (hk1.grown hgrow (Lib.ownsRowF_kind hown)).setCell ⟨b, 1, none⟩ rfl _⟩
  · exact Or.inr (Lib.BuilderAtF.put (T := 63) (e := 5) hB hb2 (bs' := bs ++ Lib.strCells s) (by simpa [Lib.strCells_length] using hown') (by decide))
  · exact (hb1.grown hgrow (by have := hb1.size; omega) (fun k hk => (hown.lt k hk).1)).setCell (p := ⟨b, 1, none⟩) hB _
theorem bld_heap {T e : TypeId} {B b : Nat} {bs : List Value} {W W2 : World} (h : Lib.IsBuilderF T e B b bs W) (hk : ∀ i, i < W.heap.size → W2.heap[i]? = W.heap[i]?) : Lib.IsBuilderF T e B b bs W2 := by
  have lt : ∀ {i : Nat} {o : Obj}, W.heap[i]? = some o → i < W.heap.size := by
    intro i o h
    rcases Nat.lt_or_ge i W.heap.size with h' | h'
    · exact h'
    · simp [Array.getElem?_eq_none h'] at h
  have key : ∀ p, Lib.BuilderAtF T e B b p bs W → Lib.BuilderAtF T e B b p bs W2 := by
    rintro p ⟨hB, v, hb, hown, hne⟩
    refine ⟨hB, v, (hk b (lt hb)).trans hb, ⟨hown.1, ?_⟩, hne⟩
    rcases hown.2 with h | ⟨g, cap, cur, fz, hv, hBg, hg, rest⟩
    · exact .inl h
    · exact .inr ⟨g, cap, cur, fz, hv, hBg, (hk g (lt hg)).trans hg, rest⟩
  exact h.elim (fun x => .inl (key _ x)) (fun x => .inr (key _ x))
theorem bld_below {T e : TypeId} {B b : Nat} {bs : List Value} {W W2 : World} (h : Lib.IsBuilderF T e B b bs W) (hb : Below W.heap.size W W2) : Lib.IsBuilderF T e B b bs W2 := bld_heap h hb.block
theorem bld_size {T e : TypeId} {B b : Nat} {bs : List Value} {W : World} (h : Lib.IsBuilderF T e B b bs W) : B ≤ W.heap.size := by
  have : ∀ p, Lib.BuilderAtF T e B b p bs W → B ≤ W.heap.size := by
    rintro p ⟨hB, v, hb, _⟩
    rcases Nat.lt_or_ge b W.heap.size with h' | h'
    · omega
    · simp [Array.getElem?_eq_none h'] at hb
  exact h.elim (this _) (this _)
theorem below_mine {B : Nat} {w W W2 : World} (h : Below w.heap.size w W) (k : Below B W W2) (hB : w.heap.size ≤ B) : Below w.heap.size w W2 := h.trans (k.mono hB)
/-- A write, over bytes. -/
theorem writeBytes (B b : Nat) (acc : List UInt8) (s : ByteArray) (w : World) (h : Lib.IsBuilderF 63 5 B b (Lib.byteCells acc) w) (hlen : acc.length + s.size ≤ 140737488355328) :
    Calls Tryd.prog 42 #[.pointer (some ⟨b, 0, none⟩), .string s] w fun e w' => (∃ n : Int, e = .returned (.tuple #[.int .i64 n, .nilIface])) ∧ Lib.IsBuilderF 63 5 B b (Lib.byteCells (acc ++ s.data.toList)) w' ∧ Below B w w' ∧ Lib.OthersKept 5 (some b) w w' := by
  refine (writeString B b (Lib.byteCells acc) s w h (by rw [Lib.byteCells_length]; exact hlen) (bld_size h)).mono ?_
  rintro e w' ⟨rfl, h1, hb, hk⟩
  refine ⟨⟨_, rfl⟩, ?_, hb, hk⟩
  rw [Lib.strCells_eq] at h1
  simpa [Lib.byteCells] using h1
end Go.Proofs.YtkolhpacpbhceaaDoor.X
namespace Go.Proofs.YtkolhpacpbhceaaDoor.X
open Go.RowKit
/-- The decimal numeral of an int. -/
def strconv_Itoa.f (a0 : Int) : Option ByteArray := if -9223372036854775808 ≤ a0 then (if a0 ≤ 9223372036854775807 then some ⟨(Lib.itoa a0).toArray⟩ else none) else none
theorem below_grow (w : World) (q : Nat) (os : Array Obj) : Below w.heap.size w (Sort.grow (w.drewN q) os) :=
  ⟨rfl, rfl, rfl, by show w.heap.size ≤ (w.heap ++ os).size; rw [Array.size_append]; omega, fun i hi => by
    show ((w.drewN q).heap ++ os)[i]? = _
    rw [Array.getElem?_append_left (by show i < w.heap.size; omega)]
    rfl⟩
theorem strconv_Itoa.calls (a0 : Int) (r : ByteArray) (w : World) (hG : GI w) (h : strconv_Itoa.f a0 = some r) :
    Calls Tryd.prog 43 #[.int .i64 a0] w fun e w' => e = .returned (.string r) ∧ Below w.heap.size w w' := by
  unfold strconv_Itoa.f at h
  by_cases h0 : -9223372036854775808 ≤ a0
  · by_cases h1 : a0 ≤ 9223372036854775807
    · rw [if_pos h0, if_pos h1] at h
      obtain rfl := Option.some.inj h
      refine (Tryd.strconv_Itoa a0 h0 h1 w hG.1).mono ?_
      rintro e w' ⟨rfl, k, os, rfl⟩
      exact ⟨rfl, below_grow w k os⟩
    · rw [if_pos h0, if_neg h1] at h
      cases h
  · rw [if_neg h0] at h
    cases h
end Go.Proofs.YtkolhpacpbhceaaDoor.X
namespace Go.Proofs.YtkolhpacpbhceaaDoor.X
open Go Go.RowKit Go.Lib Go.Proofs Go.Shelf
section
variable {F : Fence} {n : Nat} {P : Program}
/-- What abides the turn of block b, and new blocks. -/
def AbBox {β : Type} (b : Nat) (J : β → World → Prop) : Prop := ∀ s W W', J s W → W.grownBy W' (some b) → J s W'
/-- What abides the turn of block b, and of whatever is no cells and lies at or beyond B. -/
def AbFrom {β : Type} (B b : Nat) (I : β → World → Prop) : Prop :=
  ∀ s W W' row, I s W → W.grownBy W' row → (∀ r, row = some r → r = b ∨ (B ≤ r ∧ ∃ o : Obj, W.heap[r]? = some o ∧ o.isCells = false)) → I s W'
/-- An iterator's contract: it hands out L, in its order; a round that goes on leaves its box as it was. -/
def SeqBox {α : Type} (F : Fence) (n : Nat) (P : Program) (g : Nat) (lb : Array Value) (encs : α → Array Value) (b : Nat) (G : World → Prop) (L : List α) (w : World) : Prop :=
  ∀ (l : Nat) (J Jx : List α → World → Prop) (W : World), Below w.heap.size w W → (∀ pre W1, J pre W1 → G W1) → AbBox b J → AbBox b Jx →
    (∀ pre x W1, J pre W1 → pre ++ [x] <+: L → YieldAt F (n - 1) P l (encs x) W1 fun e W' =>
      (e = .returned (.bool true) ∧ J (pre ++ [x]) W' ∧ W'.heap[b]? = W1.heap[b]?) ∨ (e = .returned (.bool false) ∧ Jx (pre ++ [x]) W')) →
    J [] W →
    CallsIn F n P g (#[.func (.yield l) #[] #[]] ++ lb) W fun e W' => (∃ v, e = .returned v) ∧ (J L W' ∨ (∃ pre, pre <+: L ∧ Jx pre W'))
/-- A loop's record in its three states. -/
def recAt (fn : FuncId) (tmps : Array Value) (ps : Array Tmp) (assign body : Code) (D : Nat) (st : LoopState) (pe : Option Code) : Loop := { state := st, pending := pe, fn, tmps, params := ps, assign, body, defers := D }
/-- How a round may be left. -/
def boxPost {α : Type} (B b : Nat) (I : List α → World → Prop) (Ix : List α → World → Prop) (xs : List α) (W : World) : Exit → Act → World → Prop
  | .normal, _, W' => KeepsFrom B W W' ∧ W'.heap[b]? = W.heap[b]? ∧ I xs W'
  | .ret, _, W' => KeepsFrom B W W' ∧ Ix xs W'
  | _, _, _ => False
/-- The statement, where a round goes on or returns from the function. -/
theorem wpIn_rangeFunc_box {α : Type} {g : Operand} {ps : Array Tmp} {assign body : Code} {Q : Exit → Act → World → Prop} {a : Act} {w : World}
    (hro : F.round = none) (h1 : 1 ≤ n) {gf : Nat} {lb : Array Value} (hg : a.eval g = .func (.func gf) #[] lb) (hFg : F.fn gf) (eg : ∀ args w, (callFunc gf args).run P w = .ok (.enter gf args) w)
    {encs : α → Array Value} {b : Nat} {G : World → Prop} {L : List α} {w0 : World} (hseq : SeqBox F (n - 1) P gf lb encs b G L w0) (hbw : b < w.heap.size)
    (hb0 : Below w0.heap.size w0 w) (hps : ∀ x, (encs x).size = ps.size)
    (I Ix : List α → World → Prop) (hIG : ∀ pre W, I pre W → G W) (hI : AbFrom w.heap.size b I) (hIx : AbFrom w.heap.size b Ix) (h0 : I [] w) (a₁ : α → Act)
    (hassign : ∀ (l : Nat) (x : α) (W : World) (K : Act → World → Prop), K (a₁ x) W →
      assign.wpIn (F.inRound l) (n - 1 - 1) P (Exit.then K (fun _ _ _ => False)) { tmps := (ps.zip (encs x)).foldl (fun t (p, v) => t.setIfInBounds p v) a.tmps, defers := [] } W)
    (hbody : ∀ (l : Nat) (pre : List α) (x : α) (W : World), I pre W → pre ++ [x] <+: L → body.wpIn (F.inRound l) (n - 1 - 1) P (boxPost w.heap.size b I Ix (pre ++ [x]) W) (a₁ x) W)
    (hdone : ∀ (W : World), I L W → W.heap[w.heap.size]? = some (.deferred (some [])) → Q .normal { a with defers := { target := .collected w.heap.size, args := #[] } :: a.defers } W)
    (hstop : ∀ (pre : List α) (W : World), pre <+: L → Ix pre W → W.heap[w.heap.size]? = some (.deferred (some [])) → Code.ret.wpIn F n P Q { a with defers := { target := .collected w.heap.size, args := #[] } :: a.defers } W) :
    (Code.rangeFunc g ps assign body).wpIn F n P Q a w := by
  refine wpIn_rangeFunc fun fn hfn => ?_
  rw [hro]
  let D := w.heap.size
  let rc := recAt fn a.tmps ps assign body D
  let W1 := (w.alloc (.deferred (some []))).alloc (.loop (rc .ready none))
  have s1 : (w.alloc (.deferred (some []))).heap.size = D + 1 := World.size_alloc ..
  have dW1 : W1.heap[D]? = some (.deferred (some [])) := (Below.heap_alloc _ _ _ (by rw [s1]; omega)).trans (World.alloc_heap_new w _)
  have lW1 : W1.heap[D + 1]? = some (.loop (rc .ready none)) := by have := World.alloc_heap_new (w.alloc (.deferred (some []))) (.loop (rc .ready none)); rwa [s1] at this
  have gW1 : w.grownBy W1 none := ⟨rfl, rfl, rfl, by show w.heap.size ≤ W1.heap.size; have := (Array.getElem?_eq_some_iff.1 lW1).1; omega, fun k hk _ => ((Below.heap_alloc _ _ _ (by rw [s1]; omega)).trans (Below.heap_alloc _ _ _ hk))⟩
  have bk : ∀ (st : LoopState) (pe : Option Code) {A B : World}, A.heap[D + 1]? = some (.loop (rc st pe)) → A.heap[D]? = some (.deferred (some [])) → A.grownBy B (some b) → B.heap[D + 1]? = some (.loop (rc st pe)) ∧ B.heap[D]? = some (.deferred (some [])) :=
    fun st pe A B h2 h3 hg2 => ⟨(hg2.block _ (Array.getElem?_eq_some_iff.1 h2).1 (fun e => by have := Option.some.inj e; omega)).trans h2, (hg2.block _ (Array.getElem?_eq_some_iff.1 h3).1 (fun e => by have := Option.some.inj e; omega)).trans h3⟩
  have turn : ∀ {J : List α → World → Prop}, AbFrom D b J → ∀ {s A} (o o' : Obj), A.heap[D + 1]? = some o → o.isCells = false → J s A → J s (A.putObj (D + 1) o') := fun hJ s A o o' h2 h3 hj =>
    hJ s A _ (some (D + 1)) hj (grownBy_putObj' A (D + 1) o') (fun r e => .inr ⟨by have := Option.some.inj e; omega, o, by have := Option.some.inj e; subst this; exact h2, h3⟩)
  have one : ∀ {J : List α → World → Prop}, AbFrom D b J → AbBox b J := fun hJ s A B hj hg2 => hJ s A B (some b) hj hg2 (fun r e => .inl (Option.some.inj e).symm)
  refine ⟨D + 1, [{ target := .collected D, args := #[] }], W1, { target := .fn (.func gf) lb, args := #[.func (.yield (D + 1)) #[] #[]] }, W1, gf, #[.func (.yield (D + 1)) #[] #[]] ++ lb, W1,
    run_enterLoop_outer _ _ _ _ _, ?_, ?_, ?_, fun _ => h1, ?_⟩
  · simp only [resolve, hg]
    simp [go_sem]
  · intro f' hf'
    simp [Target.leads] at hf'
    exact hf' ▸ hFg
  · simp [invoke, go_sem, eg]
  refine (hseq (D + 1) (fun pre W => I pre W ∧ W.heap[D + 1]? = some (.loop (rc .ready none)) ∧ W.heap[D]? = some (.deferred (some [])))
    (fun pre W => Ix pre W ∧ W.heap[D + 1]? = some (.loop (rc .done (some .ret))) ∧ W.heap[D]? = some (.deferred (some []))) W1 ?_ (fun pre W h => hIG pre W h.1) ?_ ?_ ?_ ⟨hI [] w W1 none h0 gW1 (fun r e => by cases e), lW1, dW1⟩).mono ?_
  · exact hb0.trans ⟨gW1.os, gW1.tape, gW1.output, gW1.size, fun k hk => gW1.block k (Nat.lt_of_lt_of_le hk hb0.size) (by simp)⟩
  · exact fun s A B hs hg2 => ⟨one hI s A B hs.1 hg2, bk _ _ hs.2.1 hs.2.2 hg2⟩
  · exact fun s A B hs hg2 => ⟨one hIx s A B hs.1 hg2, bk _ _ hs.2.1 hs.2.2 hg2⟩
  · rintro pre x W ⟨hi, hl, hd⟩ hlen
    have hlt := (Array.getElem?_eq_some_iff.1 hl).1
    refine ⟨fn, _, assign, body, run_yield (P := P) (args := encs x) hl (hps x), roundIn_of_wpIn hfn (hassign _ x W _ ⟨_, run_beginRound hl rfl, ?_⟩)⟩
    have hl2 : (W.putObj (D + 1) (.loop (rc .busy none))).heap[D + 1]? = some (.loop (rc .busy none)) := World.putObj_heap_same hlt
    have hd2 : (W.putObj (D + 1) (.loop (rc .busy none))).heap[D]? = some (.deferred (some [])) := (World.putObj_heap_other (by omega)).trans hd
    have hb2 : (W.putObj (D + 1) (.loop (rc .busy none))).heap[b]? = W.heap[b]? := World.putObj_heap_other (by omega)
    refine wpIn_mono (hbody _ pre x _ (turn hI _ _ hl rfl hi) hlen) ?_
    rintro e a3 W3 hp
    cases e with
    | normal =>
      obtain ⟨hk, hbx, hi3⟩ := hp
      have hl3 := hk.same _ _ (by omega) hl2 rfl
      have hd3 := hk.same _ _ (Nat.le_refl _) hd2 rfl
      exact ⟨_, _, run_endRound none hl3, .inl ⟨rfl, ⟨turn hI _ _ hl3 rfl hi3, World.putObj_heap_same (Array.getElem?_eq_some_iff.1 hl3).1, (World.putObj_heap_other (by omega)).trans hd3⟩, ((World.putObj_heap_other (by omega)).trans hbx).trans hb2⟩⟩
    | ret =>
      obtain ⟨hk, hi3⟩ := hp
      have hl3 := hk.same _ _ (by omega) hl2 rfl
      have hd3 := hk.same _ _ (Nat.le_refl _) hd2 rfl
      exact ⟨_, _, run_endRound (some .ret) hl3, .inr ⟨rfl, turn hIx _ _ hl3 rfl hi3, World.putObj_heap_same (Array.getElem?_eq_some_iff.1 hl3).1, (World.putObj_heap_other (by omega)).trans hd3⟩⟩
    | exit id => exact hp.elim
    | goto t => exact hp.elim
    | panic ch => exact hp.elim
    | outgrown => exact hp.elim
  · rintro e W2 ⟨⟨v, rfl⟩, (⟨hi, hl, hd⟩ | ⟨pre, hSp, hi, hl, hd⟩)⟩
    · exact ⟨none, _, run_endLoop hl (by simp [rc, recAt]), hdone _ (turn hI _ _ hl rfl hi) ((World.putObj_heap_other (by omega)).trans hd)⟩
    · exact ⟨some .ret, _, run_endLoop hl (by simp [rc, recAt]), hstop pre _ hSp (turn hIx _ _ hl rfl hi) ((World.putObj_heap_other (by omega)).trans hd)⟩
end
end Go.Proofs.YtkolhpacpbhceaaDoor.X
namespace Go.Proofs.YtkolhpacpbhceaaDoor.TX
open Go Go.Lib
/-- The first piece, the rest behind its byte c, and whether there is one. -/
def cut1 (c : UInt8) : List UInt8 → List UInt8 × List UInt8 × Bool
  | [] => ([], [], false)
  | b :: r => if b = c then ([], r, true) else (b :: (cut1 c r).1, (cut1 c r).2.1, (cut1 c r).2.2)
theorem cut1_cons (c b : UInt8) (r : List UInt8) : cut1 c (b :: r) = if b = c then ([], r, true) else (b :: (cut1 c r).1, (cut1 c r).2.1, (cut1 c r).2.2) := rfl
theorem index_nil (c : UInt8) : index [] [c] = -1 := rfl
theorem index_cons (c b : UInt8) (r : List UInt8) : index (b :: r) [c] = if b = c then 0 else if index r [c] = -1 then -1 else index r [c] + 1 := by
  have e0 : index (b :: r) [c] = if [c].isPrefixOf (b :: r) then 0 else if index r [c] == -1 then -1 else index r [c] + 1 := rfl
  rw [e0]
  by_cases h : b = c
  · subst h; simp [List.isPrefixOf]
  · have h2 : (c == b) = false := by simpa using fun e => h e.symm
    rw [if_neg h]
    simp only [List.isPrefixOf, h2, Bool.false_and, Bool.false_eq_true, if_false]
    by_cases h3 : index r [c] = -1
    · simp [h3]
    · rw [if_neg (by simpa using h3), if_neg h3]
theorem cut_eq (c : UInt8) : ∀ s : List UInt8, cut s [c] = cut1 c s
  | [] => by unfold cut; rw [index_nil]; rfl
  | b :: r => by
    have ih := cut_eq c r
    have hg := index_ge r [c]
    unfold cut at ih ⊢
    rw [cut1_cons, index_cons]
    by_cases h : b = c
    · rw [if_pos h, if_pos h]; simp
    · rw [if_neg h, if_neg h, ← ih]
      by_cases h3 : index r [c] = -1
      · rw [if_pos h3]; simp [h3]
      · rw [if_neg h3, if_pos (by omega), if_pos (by omega)]
        have e : (index r [c] + 1).toNat = (index r [c]).toNat + 1 := by omega
        rw [e, show (index r [c]).toNat + 1 + [c].length = ((index r [c]).toNat + [c].length) + 1 from by omega]
        rfl
theorem cut1_len (c : UInt8) : ∀ s : List UInt8, (cut1 c s).2.2 = true → (cut1 c s).2.1.length < s.length
  | [], h => by simp [cut1] at h
  | b :: r, h => by
    rw [cut1_cons] at h ⊢
    by_cases e : b = c
    · rw [if_pos e]; simp
    · rw [if_neg e] at h ⊢
      have := cut1_len c r h
      simp only [List.length_cons]; omega
theorem cut1_sum (c : UInt8) : ∀ s : List UInt8, (cut1 c s).2.2 = true → s = (cut1 c s).1 ++ c :: (cut1 c s).2.1
  | [], h => by simp [cut1] at h
  | b :: r, h => by
    rw [cut1_cons] at h ⊢
    by_cases e : b = c
    · rw [if_pos e]; simp [e]
    · rw [if_neg e] at h ⊢
      have := cut1_sum c r h
      simp only [List.cons_append]
      rw [← this]
theorem cut1_no (c : UInt8) : ∀ s : List UInt8, (cut1 c s).2.2 = false → (cut1 c s).1 = s ∧ (cut1 c s).2.1 = []
  | [], _ => ⟨rfl, rfl⟩
  | b :: r, h => by
    rw [cut1_cons] at h ⊢
    by_cases e : b = c
    · rw [if_pos e] at h; simp at h
    · rw [if_neg e] at h ⊢
      have := cut1_no c r h
      exact ⟨by simp [this.1], this.2⟩
theorem cut1_first (c : UInt8) : ∀ (a r : List UInt8), c ∉ a → cut1 c (a ++ c :: r) = (a, r, true)
  | [], r, _ => by show cut1 c (c :: r) = _; rw [cut1_cons, if_pos rfl]
  | b :: a, r, h => by
    have h1 : ¬ b = c := fun e => h (by simp [e])
    have ih := cut1_first c a r (fun e => h (by simp [e]))
    show cut1 c (b :: (a ++ c :: r)) = _
    rw [cut1_cons, if_neg h1, ih]
def isDig (b : UInt8) : Bool := decide (48 ≤ b.toNat) && decide (b.toNat ≤ 57)
def valFrom : Nat → List UInt8 → Nat
  | a, [] => a
  | a, b :: r => valFrom (10 * a + (b.toNat - 48)) r
/-- Digits, without a needless 0 ahead. -/
def Canon (s : List UInt8) : Prop := 1 ≤ s.length ∧ ¬ (1 < s.length ∧ s.head? = some 48) ∧ s.all isDig = true
instance (s : List UInt8) : Decidable (Canon s) := by unfold Canon; infer_instance
theorem isDig_iff (b : UInt8) : isDig b = true ↔ 48 ≤ b.toNat ∧ b.toNat ≤ 57 := by simp [isDig]
theorem valFrom_snoc : ∀ (s : List UInt8) (a : Nat) (b : UInt8), valFrom a (s ++ [b]) = 10 * valFrom a s + (b.toNat - 48)
  | [], a, b => rfl
  | c :: r, a, b => valFrom_snoc r _ b
theorem valFrom_ge : ∀ (s : List UInt8) (a : Nat), a * 10 ^ s.length ≤ valFrom a s
  | [], a => Nat.le_of_eq (by rw [List.length_nil, Nat.pow_zero, Nat.mul_one]; rfl)
  | b :: r, a => by
    refine Nat.le_trans ?_ (valFrom_ge r (10 * a + (b.toNat - 48)))
    rw [List.length_cons, Nat.pow_succ]
    generalize 10 ^ r.length = p
    have e : a * 10 ≤ 10 * a + (b.toNat - 48) := by omega
    have := Nat.mul_le_mul_right p e
    rw [Nat.mul_assoc, Nat.mul_comm 10 p] at this
    exact this
theorem digits_small {u : Nat} (h : u < 10) : decDigits u = [UInt8.ofNat (48 + u)] := by rw [decDigits, dif_pos h]
theorem digits_big {u : Nat} (h : ¬ u < 10) : decDigits u = decDigits (u / 10) ++ [UInt8.ofNat (48 + u % 10)] := by rw [decDigits, dif_neg h]
theorem dig_nat {d : Nat} (h : d < 10) : (UInt8.ofNat (48 + d)).toNat = 48 + d := by
  rw [UInt8.toNat_ofNat']; omega
theorem digits_len (u : Nat) : 1 ≤ (decDigits u).length := by
  by_cases h : u < 10
  · rw [digits_small h]; simp
  · rw [digits_big h]; simp
theorem digits_all (u : Nat) : (decDigits u).all isDig = true := by
  induction u using Nat.strongRecOn with
  | _ u ih =>
    by_cases h : u < 10
    · rw [digits_small h]
      simp only [List.all_cons, List.all_nil, Bool.and_true]
      rw [isDig_iff, dig_nat h]; omega
    · rw [digits_big h, List.all_append, ih (u / 10) (by omega)]
      simp only [List.all_cons, List.all_nil, Bool.and_true, Bool.true_and]
      rw [isDig_iff, dig_nat (by omega)]; omega
theorem digits_val (u : Nat) : valFrom 0 (decDigits u) = u := by
  induction u using Nat.strongRecOn with
  | _ u ih =>
    by_cases h : u < 10
    · rw [digits_small h]
      show 10 * 0 + ((UInt8.ofNat (48 + u)).toNat - 48) = u
      rw [dig_nat h]; omega
    · rw [digits_big h, valFrom_snoc, ih (u / 10) (by omega), dig_nat (by omega)]; omega
theorem digits_head (u : Nat) (h1 : 1 ≤ u) : ∃ b r, decDigits u = b :: r ∧ b ≠ 48 := by
  induction u using Nat.strongRecOn with
  | _ u ih =>
    by_cases h : u < 10
    · refine ⟨_, _, digits_small h, fun e => ?_⟩
      have := congrArg UInt8.toNat e
      rw [dig_nat h] at this
      have h48 : (48 : UInt8).toNat = 48 := rfl
      omega
    · obtain ⟨b, r, e, hb⟩ := ih (u / 10) (by omega) (by omega)
      exact ⟨b, _, by rw [digits_big h, e]; rfl, hb⟩
theorem digits_canon (u : Nat) : Canon (decDigits u) := by
  refine ⟨digits_len u, fun h => ?_, digits_all u⟩
  by_cases h0 : u < 10
  · rw [digits_small h0] at h; simp at h
  · obtain ⟨b, r, e, hb⟩ := digits_head u (by omega)
    rw [e] at h
    exact hb (by simpa using h.2)
theorem canon_val (s : List UInt8) (h : Canon s) (h1 : 1 < s.length) : 10 ^ (s.length - 1) ≤ valFrom 0 s := by
  cases s with
  | nil => simp at h1
  | cons b r =>
    obtain ⟨_, h2, h3⟩ := h
    simp only [List.all_cons, Bool.and_eq_true] at h3
    have hb := (isDig_iff b).1 h3.1
    have hb2 : b ≠ 48 := fun e => h2 ⟨h1, by simp [e]⟩
    have hb3 : b.toNat ≠ 48 := fun e => hb2 (UInt8.toNat_inj.1 (by rw [e]; rfl))
    have := valFrom_ge r (10 * 0 + (b.toNat - 48))
    refine Nat.le_trans ?_ this
    simp only [List.length_cons, Nat.add_sub_cancel]
    exact Nat.le_mul_of_pos_left _ (by omega)
/-- A number of at most so many digits, as a word has it. -/
def numP (most : Nat) (s : List UInt8) : Option Nat := if Canon s ∧ s.length ≤ most then some (valFrom 0 s) else none
theorem digits_length_le {u : Nat} : ∀ {n : Nat}, u < 10 ^ n → 1 ≤ n → (decDigits u).length ≤ n := by
  intro n h hn
  have hc := digits_canon u
  rcases Nat.lt_or_ge n (decDigits u).length with hlt | hge
  · have := canon_val _ hc (by omega)
    rw [digits_val] at this
    have h2 : 10 ^ n ≤ 10 ^ ((decDigits u).length - 1) := Nat.pow_le_pow_right (by decide) (by omega)
    omega
  · exact hge
end Go.Proofs.YtkolhpacpbhceaaDoor.TX
namespace Go.Proofs.YtkolhpacpbhceaaDoor.X
open Go Go.RowKit Go.Proofs.YtkolhpacpbhceaaDoor.TX Go.Proofs.YtkolhpacpbhceaaDoorW.PrintWords Go.Proofs.YtkolhpacpbhceaaDoorW.PrintLast Go.Proofs.YtkolhpacpbhceaaDoorW.PrintMore
theorem below_drawn (w : World) (n : Nat) : Below w.heap.size w (w.drewN n) := ⟨rfl, rfl, rfl, Nat.le_refl _, fun _ _ => rfl⟩
/-- The first piece, the rest, and whether the byte stands in it. -/
def strings_Cut.f (a0 a1 : ByteArray) : Option (ByteArray × ByteArray × Bool) := if a0.size < 4294967281 then some (⟨(Lib.cut a0.data.toList a1.data.toList).1.toArray⟩, ⟨(Lib.cut a0.data.toList a1.data.toList).2.1.toArray⟩, (Lib.cut a0.data.toList a1.data.toList).2.2) else none
theorem strings_Cut.calls (a0 a1 r1 r2 : ByteArray) (r3 : Bool) (w : World) (hG : GI w) (h : strings_Cut.f a0 a1 = some (r1, r2, r3)) :
    Calls Tryd.prog 46 #[.string a0, .string a1] w fun e w' => e = .returned (.tuple #[.string r1, .string r2, .bool r3]) ∧ Below w.heap.size w w' := by
  unfold strings_Cut.f at h
  by_cases hs : a0.size < 4294967281
  · rw [if_pos hs] at h
    obtain ⟨m, hm⟩ := hG.2.2.2
    simp only [Option.some.injEq, Prod.mk.injEq] at h
    obtain ⟨rfl, rfl, rfl⟩ := h
    refine (Tryd.strings_Cut a0 a1 m w hs hm).mono ?_
    rintro e w' ⟨rfl, n, rfl⟩
    exact ⟨rfl, below_drawn w n⟩
  · rw [if_neg hs] at h; cases h
end Go.Proofs.YtkolhpacpbhceaaDoor.X
namespace Go.Proofs.YtkolhpacpbhceaaDoor.X
open Go Go.RowKit Go.Lib Go.Proofs Go.Shelf Go.Proofs.YtkolhpacpbhceaaDoor.TX Go.Proofs.YtkolhpacpbhceaaDoorW.PrintWords Go.Proofs.YtkolhpacpbhceaaDoorW.PrintLast Go.Proofs.YtkolhpacpbhceaaDoorW.PrintMore
attribute [local go_sem] Oper.semAt_some
/-- The lines of a text, and whether each has its line feed. -/
def lns (s : ByteArray) : List (ByteArray × Bool) := if h : s.size = 0 then [] else (⟨(cut1 10 s.data.toList).1.toArray⟩, (cut1 10 s.data.toList).2.2) :: lns ⟨(cut1 10 s.data.toList).2.1.toArray⟩
termination_by s.size
decreasing_by
  have h1 : s.data.toList.length = s.size := Array.length_toList
  show ((cut1 10 s.data.toList).2.1.toArray).size < s.size
  rw [List.size_toArray, ← h1]
  cases hb : (cut1 10 s.data.toList).2.2 with
  | true => exact cut1_len 10 _ hb
  | false => rw [(cut1_no 10 _ hb).2]; show 0 < _; omega
theorem lns_nil {s : ByteArray} (h : s.size = 0) : lns s = [] := by rw [lns, dif_pos h]
theorem lns_cons {s : ByteArray} (h : ¬ s.size = 0) : lns s = (⟨(cut1 10 s.data.toList).1.toArray⟩, (cut1 10 s.data.toList).2.2) :: lns ⟨(cut1 10 s.data.toList).2.1.toArray⟩ := by rw [lns, dif_neg h]
theorem rest_lt {s : ByteArray} (h : ¬ s.size = 0) : (⟨(cut1 10 s.data.toList).2.1.toArray⟩ : ByteArray).size < s.size := by
  have h1 : s.data.toList.length = s.size := Array.length_toList
  show ((cut1 10 s.data.toList).2.1.toArray).size < s.size
  rw [List.size_toArray, ← h1]
  cases hb : (cut1 10 s.data.toList).2.2 with
  | true => exact cut1_len 10 _ hb
  | false => rw [(cut1_no 10 _ hb).2]; show 0 < _; omega
def lencs (x : ByteArray × Bool) : Array Value := #[.string x.1, .bool x.2]
/-- What is left, read off the world. -/
def leftB (b : Nat) (W : World) : Nat := match W.cell? ⟨b, 0, none⟩ with
  | some (.string s) => s.size
  | _ => 0
set_option maxRecDepth 100000 in
set_option maxHeartbeats 2000000 in
theorem lines1_in (l b : Nat) (L : List (ByteArray × Bool)) (J Jx : List (ByteArray × Bool) → World → Prop) (text : ByteArray) (hs : text.size < 4294967281) (hL : lns text = L) (W : World) (hGI : ∀ pre W, J pre W → GI W)
    (hJ : AbBox b J) (hJx : AbBox b Jx) (hbx : Boxed W b 9 (.string text))
    (hY : ∀ pre x W1, J pre W1 → pre ++ [x] <+: L → YieldAt Fence.wide (4 - 1) Tryd.prog l (lencs x) W1 fun e W' =>
      (e = .returned (.bool true) ∧ J (pre ++ [x]) W' ∧ W'.heap[b]? = W1.heap[b]?) ∨ (e = .returned (.bool false) ∧ Jx (pre ++ [x]) W'))
    (h0 : J [] W) :
    CallsIn Fence.wide 4 Tryd.prog 56 #[.func (.yield l) #[] #[], .pointer (some ⟨b, 0, none⟩)] W fun e W' => (∃ v, e = .returned v) ∧ (J L W' ∨ (∃ pre, pre <+: L ∧ Jx pre W')) := by
  refine callsIn_of_wp Tryd.func56 rfl trivial ?_ rfl
  simp only [Tryd.ntmps56, List.size_toArray, List.length_cons, List.length_nil, Nat.reduceAdd, Nat.reduceSub, Array.replicate_succ, Array.replicate_zero, List.push_toArray, List.append_toArray, List.nil_append, List.cons_append]
  gi_wp2
  gi_loopw [] (fun wr => ∃ (pre rest : List (ByteArray × Bool)) (s : ByteArray), s.size < 4294967281 ∧ Boxed wr b 9 (.string s) ∧ lns s = rest ∧ L = pre ++ rest ∧ J pre wr)
    (fun wr => leftB b wr)
  case atStart =>
    exact ⟨[], L, text, hs, hbx, hL, rfl, h0⟩
  case round =>
    obtain ⟨pre, rest, s, hsz, hbw, hr, hx, hJs⟩ := hrel
    have hc := hbw.cell
    have hf := hbw.frozen
    have e1 : s.data.toList.length = s.size := Array.length_toList
    by_cases hz : s.size = 0
    · have tE : s.toList.isEmpty = true := by rw [ByteArray.toList_eq, show s.data.toList = [] from List.eq_nil_of_length_eq_zero (by omega)]; rfl
      rw [lns_nil hz] at hr
      subst hr
      gi_wp2
      go_end0
      exact ⟨⟨_, rfl⟩, .inl (by rw [hx, List.append_nil]; exact hJs)⟩
    · have tE : s.toList.isEmpty = false := by
        rw [ByteArray.toList_eq]
        cases hd : s.data.toList with
        | nil => rw [hd] at e1; exact absurd e1.symm hz
        | cons a t => rfl
      rw [lns_cons hz] at hr
      have hcut : strings_Cut.f s ⟨#[10]⟩ = some (⟨(cut1 10 s.data.toList).1.toArray⟩, ⟨(cut1 10 s.data.toList).2.1.toArray⟩, (cut1 10 s.data.toList).2.2) := by
        unfold strings_Cut.f
        rw [if_pos hsz]
        have e : Lib.cut s.data.toList (⟨#[10]⟩ : ByteArray).data.toList = cut1 10 s.data.toList := cut_eq 10 s.data.toList
        rw [e]
      have hrl := rest_lt hz
      generalize (⟨(cut1 10 s.data.toList).1.toArray⟩ : ByteArray) = line at hcut hr
      generalize (⟨(cut1 10 s.data.toList).2.1.toArray⟩ : ByteArray) = left at hcut hr hrl
      generalize (cut1 10 s.data.toList).2.2 = ok at hcut hr
      have HY := hY pre (line, ok)
      have hpre : pre ++ [(line, ok)] <+: L := ⟨lns left, by rw [hx, ← hr]; simp⟩
      gi_wp2_with (refine ⟨trivial, ?_⟩; gi_at_call 46; refine (callsIn_wide.2 (strings_Cut.calls s ⟨#[10]⟩ line left ok wr (hGI pre wr hJs) hcut)).mono ?_; rintro e w1 ⟨rfl, hb1⟩; have hg1 : wr.grownBy w1 (some b) := ⟨hb1.os, hb1.tape, hb1.output, hb1.size, fun k hk _ => hb1.block k hk⟩; have hJ1 := hJ pre wr w1 hJs hg1; have hb1w : Boxed w1 b 9 (.string s) := (hb1.block b hbw.lt).trans hbw; obtain ⟨fn, tmps, assign, body, hy, hR⟩ := HY w1 hJ1 hpre; dsimp only [lencs] at hy)
      refine hR.mono ?_
      rintro e W3 (⟨rfl, hJ3, hk3⟩ | ⟨rfl, hJx3⟩)
      · have hb3 : Boxed W3 b 9 (.string s) := hk3.trans hb1w
        have hc3 := hb3.cell
        have hf3 := hb3.frozen
        gi_wp2
        go_roundw
        case rel => exact ⟨pre ++ [(line, ok)], lns left, left, by omega, hb3.set _, rfl, by rw [hx, ← hr]; simp, hJ _ _ _ hJ3 (grownBy_setCell' W3 b _)⟩
        case measure =>
          have m1 : leftB b (W3.setCell ⟨b, 0, none⟩ (.string left)) = left.size := by unfold leftB; rw [(hb3.set (.string left)).cell]
          have m2 : leftB b wr = s.size := by unfold leftB; rw [hc]
          rw [m1, m2]
          exact hrl
      · gi_wp2
        refine bodyPost_ret (results_none rfl _ _ _) rfl ?_
        exact ⟨⟨_, rfl⟩, .inr ⟨pre ++ [(line, ok)], hpre, hJx3⟩⟩
/-- What 'lines' hands back captures a new box. -/
theorem lines_calls (text : ByteArray) (w : World) : CallsIn Fence.wide 4 Tryd.prog 45 #[.string text] w fun e w' => e = .returned (.func (.func 56) #[] #[.pointer (some ⟨w.heap.size, 0, none⟩)]) ∧ w' = w.alloc (.cells #[.string text] 9) := by
  refine callsIn_of_wp Tryd.func45 rfl trivial ?_ rfl
  simp only [Tryd.ntmps45, List.size_toArray, List.length_cons, List.length_nil, Nat.reduceAdd, Nat.reduceSub, Array.replicate_succ, Array.replicate_zero, List.push_toArray, List.append_toArray, List.nil_append, List.cons_append]
  gi_wp2
  go_ret
  exact ⟨rfl, rfl⟩
theorem lines_box (b : Nat) (text : ByteArray) (hs : text.size < 4294967281) (w : World) (hbx : Boxed w b 9 (.string text)) :
    SeqBox Fence.wide 4 Tryd.prog 56 #[.pointer (some ⟨b, 0, none⟩)] lencs b GI (lns text) w := by
  intro l J Jx W hW hG hJ hJx hY h0
  exact lines1_in l b (lns text) J Jx text hs rfl W hG hJ hJx ((hW.block b hbx.lt).trans hbx) hY h0
end Go.Proofs.YtkolhpacpbhceaaDoor.X
namespace Go.Proofs.YtkolhpacpbhceaaDoor.Pr
open Go.RowKit Go.Proofs.YtkolhpacpbhceaaDoorW.PrintWords Go.Proofs.YtkolhpacpbhceaaDoorW.PrintLast Go.Proofs.YtkolhpacpbhceaaDoorW.PrintMore Go.Proofs.YtkolhpacpbhceaaDoor.X
attribute [local go_sem] max2_int min2_int max_two min_two max_three min_three max_four min_four   -- for this text's walks alone
set_option linter.unusedVariables false
set_option linter.unusedSimpArgs false
def rod_Print.app (acc : List UInt8) (s : ByteArray) : Option (List UInt8) := if acc.length + s.size ≤ 140737488355328 then some (acc ++ s.data.toList) else none
def rod_Print.part (x : S39) : Option ByteArray := (strconv_Itoa.f x.f0).bind fun a => (strconv_Itoa.f x.f1).bind fun b => if a.size ≤ 100 ∧ b.size ≤ 100 then some (((a ++ ⟨#[32]⟩) ++ b) ++ ⟨#[10]⟩) else none
def rod_Print.l0 : Nat → List S39 → List UInt8 → Int → Option (ByteArray × Int)
 | 0, _, _, _ => none
 | k + 1, l, acc, i => if i < (l.length : Int) then (if 0 ≤ i then ((rod_Print.part (rd_T39 l i)).bind fun s => (rod_Print.app acc s).bind fun acc2 => rod_Print.l0 k l acc2 (wrap64 (i + 1))) else none) else some (⟨acc.toArray⟩, 0)
def rod_Print.f (k : Nat) (l0 : List (S39)) : Option (ByteArray × Int) := (rod_Check.f k l0).bind fun t => if t = 0 then rod_Print.l0 k l0 [] 0 else some (⟨#[]⟩, t)
set_option maxHeartbeats 8000000 in
set_option maxRecDepth 100000 in
theorem rod_Print.calls (k : Nat) (A0 : Option Addr) (c0 : Nat) (l0 : List (S39)) (r1 : ByteArray) (r2 : Int) (w : World) (hr0 : Kd.C k39 w A0 l0.length l0) (hc0 : l0.length ≤ c0) (hG : GI w) (h : rod_Print.f k l0 = some (r1, r2)) :
  Calls Tryd.prog 23 #[.slice A0 l0.length c0] w fun e w' => e = .returned (.tuple #[.string r1, .int .i64 r2]) ∧ Below w.heap.size w w' := by
 have HR0 := Aside0.mk hr0
 have HC0 := Aside0.mk hc0
 clear hr0 hc0
 have HG := Aside0.mk hG
 clear hG
 replace h := Option.bind_eq_some_iff.mp h
 obtain ⟨t, ht, h⟩ := h
 have H1 := Aside0.mk ht
 have H2 := Aside0.mk h
 clear ht h
 go_enter Tryd.func23, Tryd.ntmps23
 go_wp2_with (go_at_call 21; refine (rod_Check.calls k A0 c0 l0 t w HR0.out HC0.out H1.out).mono ?_)
 rintro e w1 ⟨rfl, hb1⟩
 have HB := Aside0.mk hb1
 clear hb1
 by_cases ht : t = 0
 case neg =>
  have H := H2.out
  rw [if_neg ht] at H
  have ht0 : (t == 0) = false := beq_eq_false_iff_ne.mpr ht
  have ht1 : (t != 0) = true := bne_iff_ne.mpr ht
  simp only [Option.some.injEq, Prod.mk.injEq] at H
  obtain ⟨rfl, rfl⟩ := H
  go_wp2
  go_ret2
  exact ⟨rfl, HB.out⟩
 case pos =>
  subst ht
  have H := H2.out
  rw [if_pos rfl] at H
  have H' := Aside0.mk H
  clear H H2
  have HBu := Aside0.mk (Lib.IsBuilderF.of (Lib.fresh_isBuilder 63 5 w1))
  have HB0 := HB
  have HB1 := HB0
  replace HB := Aside0.mk (below_alloc HB.out (.cells #[.pointer none, .slice none 0 0] 63))
  clear HB0
  go_wp2
  go_loopg [15] k (fun kq v15 w' => ∃ (x : Int) (acc : List UInt8), v15 = .int .i64 x ∧ Aside0 (rod_Print.l0 kq l0 acc x = some (r1, r2)) ∧ Aside0 (kq ≤ k) ∧ Aside0 (Lib.IsBuilderF 63 5 w1.heap.size w1.heap.size (Lib.byteCells acc) w') ∧ Aside0 (Below w.heap.size w w'))
  case atStart => exact ⟨0, [], rfl, H', ⟨Nat.le_refl _⟩, HBu, HB⟩
  case round =>
   clear H' HBu HB
   have HW1 : Aside0 (w.heap.size ≤ w1.heap.size) := ⟨HB1.out.size⟩
   obtain ⟨x, acc, rfl, HA, HK1, HBu, HB⟩ := hrel
   cases gk with
   | zero => exact absurd HA.out (by simp [rod_Print.l0])
   | succ k1 =>
    have H := HA.out
    clear HA
    simp only [rod_Print.l0] at H
    by_cases c2 : x < (l0.length : Int)
    ·
     rw [if_pos c2] at H
     have c2b : decide (x < (l0.length : Int)) = true := decide_eq_true c2
     by_cases c3 : 0 ≤ x
     ·
      rw [if_pos c3] at H
      have c3b : decide (0 ≤ x) = true := decide_eq_true c3
      obtain ⟨s, hs, H⟩ := Option.bind_eq_some_iff.mp H
      obtain ⟨acc2, ha, H⟩ := Option.bind_eq_some_iff.mp H
      obtain ⟨ta, hta, hs⟩ := Option.bind_eq_some_iff.mp hs
      obtain ⟨tb, htb, hs⟩ := Option.bind_eq_some_iff.mp hs
      by_cases hsz : ta.size ≤ 100 ∧ tb.size ≤ 100
      case neg => rw [if_neg hsz] at hs; cases hs
      rw [if_pos hsz] at hs
      obtain rfl := Option.some.inj hs
      unfold rod_Print.app at ha
      by_cases hln : acc.length + (((ta ++ ⟨#[32]⟩) ++ tb) ++ ⟨#[10]⟩ : ByteArray).size ≤ 140737488355328
      case neg => rw [if_neg hln] at ha; cases ha
      rw [if_pos hln] at ha
      obtain rfl := Option.some.inj ha
      have HLEN := Aside0.mk hln
      have HSZ := Aside0.mk hsz
      have H' := Aside0.mk H
      have HTA := Aside0.mk hta
      have HTB := Aside0.mk htb
      clear H hta htb hs ha hln hsz
      obtain ⟨ad1, e1, hy0, hy1⟩ := at_T39 HR0.out x c3 c2
      cases e1
      replace hy0 := (HB.out.cell (World.block_lt_of_cell? w _ hy0)).trans hy0
      replace hy1 := (HB.out.cell (World.block_lt_of_cell? w _ hy1)).trans hy1
      replace c3 := eq_true c3
      replace c2 := eq_true c2
      go_wp2_with (first | ((with_reducible refine gate_dst (N := 7) rfl ?_); refine box_event ?hg (N := 7) ?hd (cs := #[.int .i64 0, .int .i64 0]) (t := 39) ?hr ?_; (case hd => rfl); (case hg => rfl); (case hr => first | (go_simp; done) | (go_simp; rfl)); intro gs hgs w14 hbox hb; have BK := Aside0.mk hbox; have GS := Aside0.mk hgs; have Hb14 := Aside0.mk hb; have HBu14 := Aside0.mk (bld_below HBu.out hb); clear hbox hb hgs; have hcz0 : w14.cell? ⟨gs, 0, none⟩ = some (.int .i64 0) := (blk_cell BK.out 0).trans rfl; have hcz1 : w14.cell? ⟨gs, 1, none⟩ = some (.int .i64 0) := (blk_cell BK.out 1).trans rfl; have hfz0 := blk_frozen BK.out 0; have hfz1 := blk_frozen BK.out 1))
      have HbW : Aside0 (Below wr.heap.size wr ((w14.setCell ⟨gs, 0, none⟩ (.int .i64 (rd_T39 l0 x).f0)).setCell ⟨gs, 1, none⟩ (.int .i64 (rd_T39 l0 x).f1))) :=
       ⟨(Hb14.out.setCell (p := ⟨gs, 0, none⟩) (Nat.le_of_eq GS.out.symm) _).setCell (p := ⟨gs, 1, none⟩) (Nat.le_of_eq GS.out.symm) _⟩
      have HX : Aside0 (((w14.setCell ⟨gs, 0, none⟩ (.int .i64 (rd_T39 l0 x).f0)).setCell ⟨gs, 1, none⟩ (.int .i64 (rd_T39 l0 x).f1)).heap[gs]? = some (.cells #[.int .i64 (rd_T39 l0 x).f0, .int .i64 (rd_T39 l0 x).f1] 39 (0, 0))) :=
       ⟨blk_put (cs := #[.int .i64 (rd_T39 l0 x).f0, .int .i64 0]) (blk_put (cs := #[.int .i64 0, .int .i64 0]) BK.out 0 _ rfl) 1 _ rfl⟩
      generalize ((w14.setCell ⟨gs, 0, none⟩ (.int .i64 (rd_T39 l0 x).f0)).setCell ⟨gs, 1, none⟩ (.int .i64 (rd_T39 l0 x).f1)) = W at HbW HX ⊢
      have HBuW := Aside0.mk (bld_below HBu.out HbW.out)
      have HBW := Aside0.mk (below_step HB.out HbW.out)
      clear hcz0 hcz1 hfz0 hfz1 hy0 hy1 BK Hb14 HB HBu HbW HBu14
      have hz1 : (⟨#[32]⟩ : ByteArray).size = 1 := rfl
      have hz3 : (⟨#[10]⟩ : ByteArray).size = 1 := rfl
      have ha1 : ∀ w, (Op.stringOp .add ta ⟨#[32]⟩).run Tryd.prog w = .ok (.string (ta ++ ⟨#[32]⟩)) w := fun w => run_string_add_sum _ _ _ (by have := HSZ.out.1; rw [hz1]; omega)
      have ha2 : ∀ w, (Op.stringOp .add (ta ++ ⟨#[32]⟩) tb).run Tryd.prog w = .ok (.string ((ta ++ ⟨#[32]⟩) ++ tb)) w := fun w => run_string_add_sum _ _ _ (by have := HSZ.out; simp only [ByteArray.size_append]; rw [hz1]; omega)
      have ha3 : ∀ w, (Op.stringOp .add ((ta ++ ⟨#[32]⟩) ++ tb) ⟨#[10]⟩).run Tryd.prog w = .ok (.string (((ta ++ ⟨#[32]⟩) ++ tb) ++ ⟨#[10]⟩)) w := fun w => run_string_add_sum _ _ _ (by have := HSZ.out; simp only [ByteArray.size_append]; rw [hz1, hz3]; omega)
      refine start_ (n := 10) (S := fun w' => w'.cell? ⟨gs, 0, none⟩ = some (.int .i64 (rd_T39 l0 x).f0) ∧ w'.cell? ⟨gs, 1, none⟩ = some (.int .i64 (rd_T39 l0 x).f1) ∧ Lib.IsBuilderF 63 5 w1.heap.size w1.heap.size (Lib.byteCells acc) w' ∧ Below w.heap.size w w' ∧ GI w') (ds := [9]) #[false, false, false, false, false, false, false, false, false, false] (by kernel_rfl) rfl rfl ⟨(blk_cell HX.out 0).trans rfl, (blk_cell HX.out 1).trans rfl, HBuW.out, (below_drew1 HBW.out), (GI.below HG.out (below_drew1 HBW.out))⟩ (fun hHeld => ?_)
      generalize W.drew = Wd at hHeld ⊢
      refine pure_ (i := 0) (N := some 19) (v := ?_) (a' := ?_) #[true, false, false, false, false, false, false, false, false, false] rfl rfl (by kernel_rfl) (fun _ _ _ h => h) (Or.inl ⟨by rfl, ?_⟩) ?_ ?_
      rotate_left
      ·
       intro w'
       go_simp
       with_reducible rfl
      rotate_left
      ·
       simp only [Act.put, List.setIfInBounds_toArray, List.set_cons_zero, List.set_cons_succ, i64_w, i32_w]
       rfl
      refine pure_ (i := 4) (N := some 23) (v := ?_) (a' := ?_) #[true, false, false, false, true, false, false, false, false, false] rfl rfl (by kernel_rfl) (fun _ _ _ h => h) (Or.inl ⟨by rfl, ?_⟩) ?_ ?_
      rotate_left
      ·
       intro w'
       go_simp
       with_reducible rfl
      rotate_left
      ·
       simp only [Act.put, List.setIfInBounds_toArray, List.set_cons_zero, List.set_cons_succ, i64_w, i32_w]
       rfl
      refine take_ (i := 1) (N := some 20) (v := ?_) (a' := ?_) #[true, true, false, false, true, false, false, false, false, false] rfl rfl (by kernel_rfl) (fun _ _ _ h => h) (Or.inl ⟨by rfl, ?_⟩) hHeld ?_ ?_
      rotate_left
      ·
       rintro w' ⟨s0, s1, s2, s3, s4⟩
       go_simp
       with_reducible rfl
      rotate_left
      ·
       simp only [Act.put, List.setIfInBounds_toArray, List.set_cons_zero, List.set_cons_succ, i64_w, i32_w]
       rfl
      refine take_ (i := 5) (N := some 24) (v := ?_) (a' := ?_) #[true, true, false, false, true, true, false, false, false, false] rfl rfl (by kernel_rfl) (fun _ _ _ h => h) (Or.inl ⟨by rfl, ?_⟩) hHeld ?_ ?_
      rotate_left
      ·
       rintro w' ⟨s0, s1, s2, s3, s4⟩
       go_simp
       with_reducible rfl
      rotate_left
      ·
       simp only [Act.put, List.setIfInBounds_toArray, List.set_cons_zero, List.set_cons_succ, i64_w, i32_w]
       rfl
      refine one_ (i := 2) (N := some 21) #[true, true, true, false, true, true, false, false, false, false] rfl rfl (by kernel_rfl) (by decide) (fun K hK => ?_)
      refine goes_ Tryd.func43 (by kernel_rfl) rfl #[.int .i64 ((rd_T39 l0 x).f0)] (by rfl) rfl rfl (by simp only [List.map_toArray, List.map_cons, List.map_nil]; rfl) ?_
      with_reducible refine (strconv_Itoa.calls _ _ _ hHeld.2.2.2.2 HTA.out).mono ?_
      rintro e w3 ⟨rfl, hb3⟩
      refine ⟨_, rfl, ?_⟩
      refine hK.out _ _ ⟨((hb3.cell (World.block_lt_of_cell? _ _ (hHeld.1))).trans (hHeld.1)), ((hb3.cell (World.block_lt_of_cell? _ _ (hHeld.2.1))).trans (hHeld.2.1)), bld_below (hHeld.2.2.1) hb3, below_step (hHeld.2.2.2.1) hb3, GI.below (hHeld.2.2.2.2) hb3⟩ (fun hHeld => ?_)
      clear hK K
      refine norm_ (a' := ?_) ?_ ?_
      rotate_left
      ·
       show Act.put _ (some 21) _ = _
       simp only [Act.put, List.setIfInBounds_toArray, List.set_cons_zero, List.set_cons_succ, i64_w, i32_w]
       rfl
      refine pure_ (i := 3) (N := some 22) (v := ?_) (a' := ?_) #[true, true, true, true, true, true, false, false, false, false] rfl rfl (by kernel_rfl) (fun _ _ _ h => h) (Or.inl ⟨by rfl, ?_⟩) ?_ ?_
      rotate_left
      ·
       intro w'
       go_simp
       with_reducible rfl
      rotate_left
      ·
       simp only [Act.put, List.setIfInBounds_toArray, List.set_cons_zero, List.set_cons_succ, i64_w, i32_w]
       rfl
      refine one_ (i := 6) (N := some 25) #[true, true, true, true, true, true, true, false, false, false] rfl rfl (by kernel_rfl) (by decide) (fun K hK => ?_)
      refine goes_ Tryd.func43 (by kernel_rfl) rfl #[.int .i64 ((rd_T39 l0 x).f1)] (by rfl) rfl rfl (by simp only [List.map_toArray, List.map_cons, List.map_nil]; rfl) ?_
      with_reducible refine (strconv_Itoa.calls _ _ _ hHeld.2.2.2.2 HTB.out).mono ?_
      rintro e w3 ⟨rfl, hb3⟩
      refine ⟨_, rfl, ?_⟩
      refine hK.out _ _ ⟨((hb3.cell (World.block_lt_of_cell? _ _ (hHeld.1))).trans (hHeld.1)), ((hb3.cell (World.block_lt_of_cell? _ _ (hHeld.2.1))).trans (hHeld.2.1)), bld_below (hHeld.2.2.1) hb3, below_step (hHeld.2.2.2.1) hb3, GI.below (hHeld.2.2.2.2) hb3⟩ (fun hHeld => ?_)
      clear hK K
      refine norm_ (a' := ?_) ?_ ?_
      rotate_left
      ·
       show Act.put _ (some 25) _ = _
       simp only [Act.put, List.setIfInBounds_toArray, List.set_cons_zero, List.set_cons_succ, i64_w, i32_w]
       rfl
      refine pure_ (i := 7) (N := some 26) (v := ?_) (a' := ?_) #[true, true, true, true, true, true, true, true, false, false] rfl rfl (by kernel_rfl) (fun _ _ _ h => h) (Or.inl ⟨by rfl, ?_⟩) ?_ ?_
      rotate_left
      ·
       intro w'
       go_simp
       with_reducible rfl
      rotate_left
      ·
       simp only [Act.put, List.setIfInBounds_toArray, List.set_cons_zero, List.set_cons_succ, i64_w, i32_w]
       rfl
      refine pure_ (i := 8) (N := some 27) (v := ?_) (a' := ?_) #[true, true, true, true, true, true, true, true, true, false] rfl rfl (by kernel_rfl) (fun _ _ _ h => h) (Or.inl ⟨by rfl, ?_⟩) ?_ ?_
      rotate_left
      ·
       intro w'
       go_simp
       with_reducible rfl
      rotate_left
      ·
       simp only [Act.put, List.setIfInBounds_toArray, List.set_cons_zero, List.set_cons_succ, i64_w, i32_w]
       rfl
      refine last_ (i := 9) (N := some 28) #[true, true, true, true, true, true, true, true, true, true] rfl rfl (by kernel_rfl) (by decide) (fun K hK => ?_)
      refine goes_ Tryd.func42 (by kernel_rfl) rfl #[.pointer (some ⟨w1.heap.size, 0, none⟩), .string (((ta ++ ⟨#[32]⟩) ++ tb) ++ ⟨#[10]⟩)] (by rfl) rfl rfl (by simp only [List.map_toArray, List.map_cons, List.map_nil]; rfl) ?_
      with_reducible refine (writeBytes _ _ _ _ _ (hHeld.2.2.1) HLEN.out).mono ?_
      rintro e w3 ⟨⟨n3, rfl⟩, hbu3, hb3, hk3⟩
      have HBu2 := Aside0.mk hbu3
      have HB2 := Aside0.mk (below_mine (hHeld.2.2.2.1) hb3 HW1.out)
      clear hbu3 hb3 hk3
      refine ⟨_, rfl, ?_⟩
      refine hK.out _ _ ?_
      clear hK K
      refine norm_ (a' := ?_) ?_ ?_
      rotate_left
      ·
       show Act.put _ (some 28) _ = _
       simp only [Act.put, List.setIfInBounds_toArray, List.set_cons_zero, List.set_cons_succ, i64_w, i32_w]
       rfl
      refine done_ (by kernel_rfl) ?_
      clear ha1 ha2 ha3
      go_wp2
      go_roundg k1
      case measure => have := HK1.out; omega
      case rel => exact ⟨wrap64 (x + 1), _, rfl, H', ⟨by have := HK1.out; omega⟩, HBu2, HB2⟩
     ·
      rw [if_neg c3] at H
      cases H
    ·
     rw [if_neg c2] at H
     have c2b : decide (x < (l0.length : Int)) = false := decide_eq_false c2
     clear c2
     obtain ⟨rfl, rfl⟩ := Prod.mk.inj (Option.some.inj H)
     go_wp2_with (go_at_call 44; refine (Tryd.Builder_String_any_k _ _ acc _ HBu.out (bld_size HBu.out)).mono ?_)
     intro e w9 he hq1 hb9 hq2
     subst he
     go_wp2
     go_ret2
     exact ⟨rfl, below_mine HB.out hb9 HW1.out⟩
def rod_number_1.f (a0 : Int) : Option (Bool) := if a0 ≥ 48 then (some (decide (a0 ≤ 57))) else (some false)
set_option maxHeartbeats 8000000 in
set_option maxRecDepth 100000 in
theorem rod_number_1.calls (a0 : Int) (r : Bool) (w : World) (h : rod_number_1.f a0 = some r) :
  Calls Tryd.prog 58 #[.int .u8 a0] w fun e w' => e = .returned (.bool r) ∧ Drawn0 w w' := by
 have H : (if a0 ≥ 48 then (some (decide (a0 ≤ 57))) else (some false)) = some r := h
 clear h
 by_cases c2 : a0 ≥ 48
 ·
  rw [if_pos c2] at H
  have c2b0 : decide (48 ≤ a0) = true := decide_eq_true c2
  clear c2
  obtain rfl := Option.some.inj H
  go_enter Tryd.func58, Tryd.ntmps58
  go_wp2
  go_ret
  exact ⟨by first | rfl | (simp; done) | (simp [*]; done), by repeat (first | exact Drawn0.refl _ | apply Drawn0.step)⟩
 ·
  rw [if_neg c2] at H
  have c2b0 : decide (48 ≤ a0) = false := decide_eq_false c2
  clear c2
  obtain rfl := Option.some.inj H
  go_enter Tryd.func58, Tryd.ntmps58
  go_wp2
  go_ret
  exact ⟨by first | rfl | (simp; done) | (simp [*]; done), by repeat (first | exact Drawn0.refl _ | apply Drawn0.step)⟩
mutual
def rod_number.j0 : Nat → ByteArray → Bool → Option (Int × Bool)
 | 0, _, _ => none
 | k + 1, x0, x24 => if x24 = true then (some (0, false)) else (rod_number.l0 k x0 0 (x0.size : Int) 0)
def rod_number.l0 : Nat → ByteArray → Int → Int → Int → Option (Int × Bool)
 | 0, _, _, _, _ => none
 | k + 1, x0, x5, x26, x27 => if x27 < x26 then (if 0 ≤ x27 then (if x27 < (x0.size : Int) then ((rod_number_1.f (bt x0 x27)).bind fun t168 => (if t168 = true then (rod_number.l0 k x0 (wrap64 ((wrap64 (10 * x5)) + (((bt x0 x27) - 48) % 256))) x26 (wrap64 (x27 + 1))) else (some (0, false)))) else (none)) else (none)) else (some (x5, true))
end
def rod_number.f (k : Nat) (a0 : ByteArray) : Option (Int × Bool) := if (a0.size : Int) < 1 then (rod_number.j0 k a0 true) else (if (a0.size : Int) > 10 then (rod_number.j0 k a0 true) else (if (a0.size : Int) > 1 then (if 0 < (a0.size : Int) then (rod_number.j0 k a0 ((bt a0 0) == 48)) else (none)) else (rod_number.j0 k a0 false)))
set_option maxHeartbeats 8000000 in
set_option maxRecDepth 100000 in
theorem rod_number.calls (k : Nat) (a0 : ByteArray) (r1 : Int) (r2 : Bool) (w : World) (h : rod_number.f k a0 = some (r1, r2)) :
  Calls Tryd.prog 47 #[.string a0] w fun e w' => e = .returned (.tuple #[.int .i64 r1, .bool r2]) ∧ Drawn0 w w' := by
 have H : (if (a0.size : Int) < 1 then (rod_number.j0 k a0 true) else (if (a0.size : Int) > 10 then (rod_number.j0 k a0 true) else (if (a0.size : Int) > 1 then (if 0 < (a0.size : Int) then (rod_number.j0 k a0 ((bt a0 0) == 48)) else (none)) else (rod_number.j0 k a0 false)))) = some (r1, r2) := h
 clear h
 have HC2 := Aside0.mk H
 clear H
 go_enter Tryd.func47, Tryd.ntmps47
 go_upto_region 2 with (fail)
 go_cut [24] (fun v24 wc => ∃ (kq : Nat) (x24_1 : Bool), v24 = .bool x24_1 ∧ Aside0 (rod_number.j0 kq a0 x24_1 = some (r1, r2)) ∧ Aside0 (kq ≤ k) ∧ Drawn0 w wc)
 case first =>
  have H := HC2.out
  clear HC2
  by_cases c3 : (a0.size : Int) < 1
  ·
   rw [if_pos c3] at H
   have c3b0 : decide ((a0.size : Int) < 1) = true := decide_eq_true c3
   have c3b1 : decide (a0.size < 1) = true := decide_eq_true (by omega)
   clear c3
   (first | rw [c3b0] | (simp only [i64_w, i32_w]; rw [c3b0]) | skip)
   have H' := Aside0.mk H
   clear H
   go_wp2
   go_meet
   case rel => exact ⟨_, (true), (by first | rfl | (simp; done) | (simp [*]; done)), H', ⟨by first | omega | exact Nat.le_refl _⟩, by repeat (first | exact Drawn0.refl _ | apply Drawn0.step)⟩
  ·
   rw [if_neg c3] at H
   have c3b0 : decide ((a0.size : Int) < 1) = false := decide_eq_false c3
   have c3b1 : decide (a0.size < 1) = false := decide_eq_false (by omega)
   clear c3
   (first | rw [c3b0] | (simp only [i64_w, i32_w]; rw [c3b0]) | skip)
   by_cases c4 : (a0.size : Int) > 10
   ·
    rw [if_pos c4] at H
    have c4b0 : decide (10 < (a0.size : Int)) = true := decide_eq_true c4
    have c4b1 : decide (10 < a0.size) = true := decide_eq_true (by omega)
    clear c4
    have H' := Aside0.mk H
    clear H
    go_wp2
    go_meet
    case rel => exact ⟨_, (true), (by first | rfl | (simp; done) | (simp [*]; done)), H', ⟨by first | omega | exact Nat.le_refl _⟩, by repeat (first | exact Drawn0.refl _ | apply Drawn0.step)⟩
   ·
    rw [if_neg c4] at H
    have c4b0 : decide (10 < (a0.size : Int)) = false := decide_eq_false c4
    have c4b1 : decide (10 < a0.size) = false := decide_eq_false (by omega)
    clear c4
    by_cases c5 : (a0.size : Int) > 1
    ·
     rw [if_pos c5] at H
     have c5b0 : decide (1 < (a0.size : Int)) = true := decide_eq_true c5
     have c5b1 : decide (1 < a0.size) = true := decide_eq_true (by omega)
     clear c5
     by_cases c6 : 0 < (a0.size : Int)
     ·
      rw [if_pos c6] at H
      have c6b0 : decide (0 < (a0.size : Int)) = true := decide_eq_true c6
      have c6b1 : decide (0 < a0.size) = true := decide_eq_true (by omega)
      clear c6
      have H' := Aside0.mk H
      clear H
      have p7 : 0 ≤ (0 : Int) := (by omega)
      have q7 : 0 < a0.size := (by have : (0 : Int) < (a0.size : Int) := of_decide_eq_true (by first | (with_reducible assumption) | assumption); omega)
      have hx7 : ∀ h : 0 < a0.size, ((a0[0]'h).toNat : Int) = bt a0 0 := bt_at a0 0
      clear p7
      have qi7 : (0 < (a0.size : Int)) = True := eq_true (of_decide_eq_true (by first | (with_reducible assumption) | assumption))
      replace q7 := eq_true q7
      go_wp2
      go_meet
      case rel => exact ⟨_, (((bt a0 0) == 48)), (by first | rfl | (simp; done) | (simp [*]; done)), H', ⟨by first | omega | exact Nat.le_refl _⟩, by repeat (first | exact Drawn0.refl _ | apply Drawn0.step)⟩
     ·
      rw [if_neg c6] at H
      exact absurd H (by simp)
    ·
     rw [if_neg c5] at H
     have c5b0 : decide (1 < (a0.size : Int)) = false := decide_eq_false c5
     have c5b1 : decide (1 < a0.size) = false := decide_eq_false (by omega)
     clear c5
     have H' := Aside0.mk H
     clear H
     go_wp2
     go_meet
     case rel => exact ⟨_, (false), (by first | rfl | (simp; done) | (simp [*]; done)), H', ⟨by first | omega | exact Nat.le_refl _⟩, by repeat (first | exact Drawn0.refl _ | apply Drawn0.step)⟩
 case rest =>
  clear HC2
  try clear p2
  try clear c3
  try clear c3b0
  try clear c3b1
  try clear c4
  try clear c4b0
  try clear c4b1
  try clear c5
  try clear c5b0
  try clear c5b1
  try clear c6
  try clear c6b0
  try clear c6b1
  try clear p7
  try clear q7
  try clear hx7
  try clear qi7
  try clear p7
  try clear q7
  obtain ⟨kq, x24_1, rfl, HA, HJ1, ⟨mc1, rfl⟩⟩ := hcut
  cases kq with
  | zero => exact absurd HA.out (by simp [rod_number.j0])
  | succ kj1 =>
   have H := HA.out
   clear HA
   simp only [rod_number.j0] at H
   by_cases c8 : x24_1 = true
   ·
    subst c8
    have H1 : (some (0, false)) = some (r1, r2) := by rw [if_pos rfl] at H; exact H
    clear H
    have H := H1
    clear H1
    simp only [Option.some.injEq, Prod.mk.injEq] at H
    obtain ⟨rfl, rfl⟩ := H
    go_wp2
    go_ret2
    exact ⟨by first | rfl | (simp; done) | (simp [*]; done), by repeat (first | exact Drawn0.refl _ | apply Drawn0.step)⟩
   ·
    replace c8 := Bool.eq_false_iff.mpr c8
    subst c8
    have H1 : (rod_number.l0 kj1 a0 0 (a0.size : Int) 0) = some (r1, r2) := by rw [if_neg (show ¬ (false = true) by decide)] at H; exact H
    clear H
    have H := H1
    clear H1
    have H' := Aside0.mk H
    clear H
    go_wp2
    go_loopg [5, 27] kj1 (fun kq v5 v27 w' => ∃ (x5_2 : Int) (x27_2 : Int), v5 = .int .i64 x5_2 ∧ v27 = .int .i64 x27_2 ∧ Aside0 (rod_number.l0 kq a0 x5_2 (a0.size : Int) x27_2 = some (r1, r2)) ∧ Aside0 (kq ≤ kj1) ∧ Drawn0 w w')
    case atStart => exact ⟨(0), (0), (by first | rfl | (simp; done) | (simp [*]; done)), (by first | rfl | (simp; done) | (simp [*]; done)), H', ⟨Nat.le_refl _⟩, by repeat (first | exact Drawn0.refl _ | apply Drawn0.step)⟩
    case round =>
     clear H'
     try clear c1
     try clear p2
     try clear c3
     try clear c3b0
     try clear c3b1
     try clear c4
     try clear c4b0
     try clear c4b1
     try clear c5
     try clear c5b0
     try clear c5b1
     try clear c6
     try clear c6b0
     try clear c6b1
     try clear p7
     try clear q7
     try clear hx7
     try clear qi7
     try clear c8
     try clear p2
     try clear p7
     try clear q7
     obtain ⟨x5_2, x27_2, rfl, rfl, HA, HK2, ⟨m2, rfl⟩⟩ := hrel
     cases gk with
     | zero => exact absurd HA.out (by simp [rod_number.l0])
     | succ k2 =>
      have H := HA.out
      clear HA
      simp only [rod_number.l0] at H
      by_cases c9 : x27_2 < (a0.size : Int)
      ·
       rw [if_pos c9] at H
       have c9b0 : decide (x27_2 < (a0.size : Int)) = true := decide_eq_true c9
       clear c9
       by_cases c10 : 0 ≤ x27_2
       ·
        rw [if_pos c10] at H
        have c10b0 : decide (0 ≤ x27_2) = true := decide_eq_true c10
        clear c10
        by_cases c11 : x27_2 < (a0.size : Int)
        ·
         rw [if_pos c11] at H
         have c11b0 : decide (x27_2 < (a0.size : Int)) = true := decide_eq_true c11
         clear c11
         replace H := Option.bind_eq_some_iff.mp H
         obtain ⟨t168, A130, H⟩ := H
         replace H : (if t168 = true then (rod_number.l0 k2 a0 (wrap64 ((wrap64 (10 * x5_2)) + (((bt a0 x27_2) - 48) % 256))) (a0.size : Int) (wrap64 (x27_2 + 1))) else (some (0, false))) = some (r1, r2) := H
         have A13 := Aside0.mk A130
         clear A130
         by_cases c14 : t168 = true
         ·
          subst c14
          have H1 : (rod_number.l0 k2 a0 (wrap64 ((wrap64 (10 * x5_2)) + (((bt a0 x27_2) - 48) % 256))) (a0.size : Int) (wrap64 (x27_2 + 1))) = some (r1, r2) := by rw [if_pos rfl] at H; exact H
          clear H
          have H := H1
          clear H1
          have H' := Aside0.mk H
          clear H
          have p12 : 0 ≤ (x27_2 : Int) := of_decide_eq_true (by first | (with_reducible assumption) | assumption)
          have q12 : x27_2 < (a0.size : Int) := of_decide_eq_true (by first | (with_reducible assumption) | assumption)
          have hx12 := bt_at a0 x27_2
          replace p12 := eq_true p12
          replace q12 := eq_true q12
          go_wp2_with (first | (go_at_call 58; (with_reducible refine (rod_number_1.calls (bt a0 x27_2) true _ A13.out).mono ?_); rintro e w' ⟨rfl, ⟨nd, rfl⟩⟩; have p15 : 0 ≤ (x27_2 : Int) := of_decide_eq_true (by first | (with_reducible assumption) | assumption); have q15 : x27_2 < (a0.size : Int) := of_decide_eq_true (by first | (with_reducible assumption) | assumption); have hx15 := bt_at a0 x27_2; replace p15 := eq_true p15; replace q15 := eq_true q15))
          go_roundg k2
          case measure => have := HJ1.out; have := HK2.out; omega
          case rel => exact ⟨(wrap64 ((wrap64 (10 * x5_2)) + (((bt a0 x27_2) - 48) % 256))), (wrap64 (x27_2 + 1)), (by first | rfl | (simp; done) | (simp [*]; done)), (by first | rfl | (simp; done) | (simp [*]; done)), H', ⟨by have := HJ1.out; have := HK2.out; omega⟩, by repeat (first | exact Drawn0.refl _ | apply Drawn0.step)⟩
         ·
          replace c14 := Bool.eq_false_iff.mpr c14
          subst c14
          have H1 : (some (0, false)) = some (r1, r2) := by rw [if_neg (show ¬ (false = true) by decide)] at H; exact H
          clear H
          have H := H1
          clear H1
          simp only [Option.some.injEq, Prod.mk.injEq] at H
          obtain ⟨rfl, rfl⟩ := H
          have p12 : 0 ≤ (x27_2 : Int) := of_decide_eq_true (by first | (with_reducible assumption) | assumption)
          have q12 : x27_2 < (a0.size : Int) := of_decide_eq_true (by first | (with_reducible assumption) | assumption)
          have hx12 := bt_at a0 x27_2
          replace p12 := eq_true p12
          replace q12 := eq_true q12
          go_wp2_with (first | (go_at_call 58; (with_reducible refine (rod_number_1.calls (bt a0 x27_2) false _ A13.out).mono ?_); rintro e w' ⟨rfl, ⟨nd, rfl⟩⟩))
          go_ret2
          exact ⟨by first | rfl | (simp; done) | (simp [*]; done), by repeat (first | exact Drawn0.refl _ | apply Drawn0.step)⟩
        ·
         rw [if_neg c11] at H
         exact absurd H (by simp)
       ·
        rw [if_neg c10] at H
        exact absurd H (by simp)
      ·
       rw [if_neg c9] at H
       have c9b0 : decide (x27_2 < (a0.size : Int)) = false := decide_eq_false c9
       clear c9
       simp only [Option.some.injEq, Prod.mk.injEq] at H
       obtain ⟨rfl, rfl⟩ := H
       go_wp2
       go_ret2
       exact ⟨by first | rfl | (simp; done) | (simp [*]; done), by repeat (first | exact Drawn0.refl _ | apply Drawn0.step)⟩
def rod_Parse.line (k : Nat) (x : ByteArray × Bool) : Option (Option S39) := (strings_Cut.f x.1 ⟨#[32]⟩).bind fun c => (rod_number.f k c.1).bind fun h => (rod_number.f k c.2.1).bind fun v =>
 if x.2 = true ∧ h.2 = true ∧ v.2 = true then some (some ⟨h.1, v.1⟩) else some none
def rod_Parse.rows (k : Nat) : List (ByteArray × Bool) → List S39 → Option (List S39 × Int × Int)
 | [], acc => (rod_Check.f k acc).bind fun c => if c = 0 then some (acc, 0, 0) else some ([], 0, c)
 | x :: r, acc => if acc.length < 4294967296 then (rod_Parse.line k x).bind fun y => match y with
  | none => some ([], (acc.length : Int) + 1, 3)
  | some g => rod_Parse.rows k r (acc ++ [g]) else none
def rod_Parse.f (k : Nat) (a0 : ByteArray) : Option (List S39 × Int × Int) := if (a0.size : Int) > 4096 then some ([], 0, 8) else rod_Parse.rows k (lns a0) []
def flat39 (l : List S39) : List Value := l.flatMap fun x => [Value.int .i64 x.f0, Value.int .i64 x.f1]
theorem flat39_len (l : List S39) : (flat39 l).length = l.length * 2 := by
 induction l with
 | nil => rfl
 | cons x r ih => show (_ :: _ :: flat39 r).length = _; simp only [List.length_cons, ih]; omega
theorem flat39_get (ys : List S39) : ∀ (j : Nat) (p : S39), ys[j]? = some p → ((flat39 ys).drop (j * 2)).take 2 = [.int .i64 p.f0, .int .i64 p.f1] := by
 induction ys with
 | nil => intro j p hp; simp at hp
 | cons y r ih =>
  intro j p hp
  cases j with
  | zero => obtain rfl := Option.some.inj hp; rfl
  | succ j =>
   have := ih j p (by simpa using hp)
   rw [show (j + 1) * 2 = j * 2 + 1 + 1 from by omega]
   exact this
theorem own_R39 {w : World} {base : Nat} {v : Value} {xs : List S39} (h : w.ownsRow base 39 2 v xs.length (flat39 xs)) : Kd.R k39 39 w base (fun _ => True) v xs :=
 ⟨fun _ _ => trivial, flat39 xs, h, flat39_len xs, fun j p hp => by
  have e := flat39_get xs j p hp
  show k39.M _ _ _ p (((flat39 xs).drop (j * 2)).take 2)
  rw [e]
  exact k39_mkM _ _ _ p⟩
section
attribute [local go_sem] Oper.semAt_some
/-- What stands between two rounds. -/
def rod_Parse.I (k : Nat) (a0 : ByteArray) (r : List S39 × Int × Int) (w : World) (pre : List (ByteArray × Bool)) (W : World) : Prop :=
 ∃ (acc : List S39) (v : Value) (rest : List (ByteArray × Bool)), lns a0 = pre ++ rest ∧ rod_Parse.rows k rest acc = some r ∧ Boxed W (w.heap.size + 3) 22 v ∧ Boxed W (w.heap.size + 4) 3 (.int .i64 (acc.length : Int)) ∧ W.ownsRow (w.heap.size + 6) 39 2 v acc.length (flat39 acc) ∧
  (Boxed W w.heap.size 22 (.slice none 0 0) ∧ Boxed W (w.heap.size + 1) 3 (.int .i64 0) ∧ Boxed W (w.heap.size + 2) 27 (.int .i64 0)) ∧ Below w.heap.size w W ∧ w.heap.size + 6 ≤ W.heap.size
def rod_Parse.Ix (r : List S39 × Int × Int) (w : World) (pre : List (ByteArray × Bool)) (W : World) : Prop :=
 r.1 = [] ∧ (Boxed W w.heap.size 22 (.slice none 0 0) ∧ Boxed W (w.heap.size + 1) 3 (.int .i64 r.2.1) ∧ Boxed W (w.heap.size + 2) 27 (.int .i64 r.2.2)) ∧ Below w.heap.size w W
theorem box_turn {W W' : World} {row : Option Nat} {bt B k : Nat} {t : TypeId} {v : Value} (h : Boxed W k t v) (hg : W.grownBy W' row) (hr : ∀ r, row = some r → r = bt ∨ (B ≤ r ∧ ∃ o : Obj, W.heap[r]? = some o ∧ o.isCells = false)) (h1 : k ≠ bt) (h2 : k < B) : Boxed W' k t v :=
 h.kept hg (fun e => by rcases hr k e.symm with h3 | h3 <;> omega)
theorem own_turn {W W' : World} {row : Option Nat} {bt B : Nat} {v : Value} {n : Nat} {xs : List Value} (h : W.ownsRow B 39 2 v n xs) (hg : W.grownBy W' row) (hr : ∀ r, row = some r → r = bt ∨ (B ≤ r ∧ ∃ o : Obj, W.heap[r]? = some o ∧ o.isCells = false)) (h1 : bt < B) : W'.ownsRow B 39 2 v n xs := by
 refine own_other h hg ?_
 rcases h.2 with ⟨rfl, _⟩ | ⟨g, cap, cur, rfl, hb, hh, _⟩
 ·
  exact .inl rfl
 ·
  refine .inr fun e => ?_
  rcases hr g e.symm with h3 | ⟨_, o, ho, hc⟩
  ·
   omega
  ·
   rw [hh] at ho; cases ho; cases hc
theorem box_facts {W w1 : World} {b : Nat} {t : TypeId} {v : Value} (h : Boxed W b t v) (hb : Below W.heap.size W w1) : w1.cell? ⟨b, 0, none⟩ = some v ∧ w1.frozen? ⟨b, 0, none⟩ = false :=
 have k : Boxed w1 b t v := (hb.block b h.lt).trans h
 ⟨k.cell, k.frozen⟩
theorem rod_Parse.failed {w W w1 : World} {B : Nat} (n : Int) (xs : List (ByteArray × Bool)) (hB : Below w.heap.size w W) (hb1 : Below W.heap.size W w1) (hBw : w.heap.size + 6 ≤ B)
  (y0 : Boxed W w.heap.size 22 (.slice none 0 0)) (y1 : Boxed W (w.heap.size + 1) 3 (.int .i64 0)) (y2 : Boxed W (w.heap.size + 2) 27 (.int .i64 0)) :
  KeepsFrom B W ((((w1.setCell ⟨w.heap.size, 0, none⟩ (.slice none 0 0)).setCell ⟨w.heap.size + 1, 0, none⟩ (.int .i64 n)).setCell ⟨w.heap.size + 1 + 1, 0, none⟩ (.int .i64 3)).drew) ∧
  rod_Parse.Ix ([], n, 3) w xs ((((w1.setCell ⟨w.heap.size, 0, none⟩ (.slice none 0 0)).setCell ⟨w.heap.size + 1, 0, none⟩ (.int .i64 n)).setCell ⟨w.heap.size + 1 + 1, 0, none⟩ (.int .i64 3)).drew) := by
 have b0 : Boxed w1 w.heap.size 22 (.slice none 0 0) := (hb1.block _ y0.lt).trans y0
 have b1 : Boxed w1 (w.heap.size + 1) 3 (.int .i64 0) := (hb1.block _ y1.lt).trans y1
 have b2 : Boxed w1 (w.heap.size + 2) 27 (.int .i64 0) := (hb1.block _ y2.lt).trans y2
 refine ⟨⟨?_, fun k o hk ho hc => ?_⟩, rfl, ⟨?_, ?_, ?_⟩, ?_⟩
 ·
  have := hb1.size
  simpa using this
 ·
  have h1 := (hb1.block k (Array.getElem?_eq_some_iff.1 ho).1).trans ho
  refine (Below.heap_setCell _ _ _ k (by show k ≠ w.heap.size + 1 + 1; omega)).trans ((Below.heap_setCell _ _ _ k (by show k ≠ w.heap.size + 1; omega)).trans ((Below.heap_setCell _ _ _ k (by show k ≠ w.heap.size; omega)).trans h1))
 ·
  exact ((b0.set (.slice none 0 0)).other (by omega) _).other (by omega) _
 ·
  exact ((b1.other (by omega) _).set (.int .i64 n)).other (by omega) _
 ·
  exact ((b2.other (by omega) _).other (by omega) _).set (.int .i64 3)
 ·
  exact ((((below_step hB hb1).setCell (p := ⟨w.heap.size, 0, none⟩) (Nat.le_refl _) _).setCell (p := ⟨w.heap.size + 1, 0, none⟩) (by show w.heap.size ≤ w.heap.size + 1; omega) _).setCell (p := ⟨w.heap.size + 1 + 1, 0, none⟩) (by show w.heap.size ≤ w.heap.size + 1 + 1; omega) _).drew
theorem flat39_snoc (acc : List S39) (g : S39) : flat39 (acc ++ [g]) = flat39 acc ++ [.int .i64 g.f0, .int .i64 g.f1] := by simp [flat39]
theorem box_grown {W w3 w4 : World} {tmp : Obj} {base b : Nat} {t : TypeId} {u v : Value} {n : Nat} {xs : List Value} (h : Boxed W b t u) (h3 : Below W.heap.size W w3) (ht : t ≠ 39) (ho : w3.ownsRow base 39 2 v n xs) (hg : (w3.alloc tmp).grownBy w4 v.ownBlock) : Boxed w4 b t u :=
 have k : Boxed w3 b t u := (h3.block b h.lt).trans h
 (k.alloc tmp).kept hg (k.not_row ht ho)
theorem rod_Parse.went {k : Nat} {a0 : ByteArray} {r : List S39 × Int × Int} {w W w3 w4 : World} {B : Nat} {acc : List S39} {v v' : Value} {g : S39} {pre more : List (ByteArray × Bool)} {x : ByteArray × Bool} {tmp : Obj}
  (hl : lns a0 = (pre ++ [x]) ++ more) (hq : rod_Parse.rows k more (acc ++ [g]) = some r) (hB : Below w.heap.size w W) (h3 : Below W.heap.size W w3)
  (hv : Boxed W (w.heap.size + 3) 22 v) (ho : W.ownsRow (w.heap.size + 6) 39 2 v acc.length (flat39 acc)) (hbt : w.heap.size + 5 < W.heap.size) (y4 : Boxed W (w.heap.size + 4) 3 (.int .i64 ((acc.length : Int) + 1)))
  (y0 : Boxed W w.heap.size 22 (.slice none 0 0)) (y1 : Boxed W (w.heap.size + 1) 3 (.int .i64 0)) (y2 : Boxed W (w.heap.size + 2) 27 (.int .i64 0))
  (hown' : w4.ownsRow (w.heap.size + 6) 39 2 v' (acc.length + 1) (flat39 acc ++ [.int .i64 g.f0, .int .i64 g.f1])) (hgrow : (w3.alloc tmp).grownBy w4 v.ownBlock) :
  KeepsFrom B W (w4.setCell ⟨w.heap.size + 3, 0, none⟩ v') ∧ (w4.setCell ⟨w.heap.size + 3, 0, none⟩ v').heap[w.heap.size + 5]? = W.heap[w.heap.size + 5]? ∧ rod_Parse.I k a0 r w (pre ++ [x]) (w4.setCell ⟨w.heap.size + 3, 0, none⟩ v') := by
 have ho3 : w3.ownsRow (w.heap.size + 6) 39 2 v acc.length (flat39 acc) := pw_own_below ho h3
 have hv3 : Boxed w3 (w.heap.size + 3) 22 v := (h3.block _ hv.lt).trans hv
 have hw3 : Below w.heap.size w w3 := below_step hB h3
 obtain ⟨hv4, hv5, _, hk, hb⟩ := hv3.appended (n₀ := w.heap.size) (by decide) (own_weaken ho3 (by omega)) hw3.size (by omega) (own_weaken hown' (by omega)) hgrow
 have hr5 : (w4.setCell ⟨w.heap.size + 3, 0, none⟩ v').ownsRow (w.heap.size + 6) 39 2 v' (acc.length + 1) (flat39 acc ++ [.int .i64 g.f0, .int .i64 g.f1]) := hown'.kept (grownBy_setCell' w4 _ v') (.inr (hv4.not_row (by decide) hown').symm)
 refine ⟨KeepsFrom.trans ⟨h3.size, fun i o _ hi _ => (h3.block i (Array.getElem?_eq_some_iff.1 hi).1).trans hi⟩ (hk.from B), ?_, acc ++ [g], v', more, hl, hq, hv5, ?_, ?_, ⟨?_, ?_, ?_⟩, hw3.trans hb, ?_⟩
 ·
  refine (Below.heap_setCell _ _ _ _ (by show w.heap.size + 5 ≠ w.heap.size + 3; omega)).trans ?_
  have h4 : w.heap.size + 5 < w3.heap.size := Nat.lt_of_lt_of_le hbt h3.size
  refine (hgrow.block _ (by rw [World.size_alloc]; omega) (fun e => ?_)).trans ((Below.heap_alloc w3 tmp _ h4).trans (h3.block _ hbt))
  have := own_base ho3 _ e.symm
  omega
 ·
  have e : ((acc ++ [g]).length : Int) = (acc.length : Int) + 1 := by simp
  rw [e]
  exact (box_grown y4 h3 (by decide) ho3 hgrow).other (by omega) _
 ·
  rw [flat39_snoc, List.length_append]; exact hr5
 ·
  exact (box_grown y0 h3 (by decide) ho3 hgrow).other (by omega) _
 ·
  exact (box_grown y1 h3 (by decide) ho3 hgrow).other (by omega) _
 ·
  exact (box_grown y2 h3 (by decide) ho3 hgrow).other (by omega) _
 ·
  have e1 := h3.size
  have e2 := hk.size
  omega
theorem two_cells (w : World) (a b : Value) (t : TypeId) : ∀ (j : Nat) (u : Value), [a, b][j]? = some u → (w.alloc (.cells #[a, b] t)).cell? ((⟨w.heap.size, 0, none⟩ : Addr).add j) = some u := by
 intro j u hj
 rw [Addr.add_lit, Nat.zero_add, World.cell?_alloc_at (w := w) _ _ w.heap.size j rfl]
 simpa using hj
theorem results_boxes {W : World} {tmps : Array Value} {g1 g2 g3 : Nat} {v1 v2 v3 : Value} (h1 : tmps.getD 2 undef = .pointer (some ⟨g1, 0, none⟩)) (h2 : tmps.getD 3 undef = .pointer (some ⟨g2, 0, none⟩)) (h3 : tmps.getD 4 undef = .pointer (some ⟨g3, 0, none⟩))
  (b1 : Boxed W g1 22 v1) (b2 : Boxed W g2 3 v2) (b3 : Boxed W g3 27 v3) : (results Tryd.f25 tmps).run Tryd.prog W = .ok (.tuple #[v1, v2, v3]) W := by
 have a22 : ∀ W : World, (isAgg 22).run Tryd.prog W = .ok false W := fun W => by kernel_rfl
 have a3 : ∀ W : World, (isAgg 3).run Tryd.prog W = .ok false W := fun W => by kernel_rfl
 have a27 : ∀ W : World, (isAgg 27).run Tryd.prog W = .ok false W := fun W => by kernel_rfl
 have c1 := b1.cell
 have c2 := b2.cell
 have c3 := b3.cell
 have h1' : tmps[2]?.getD undef = .pointer (some ⟨g1, 0, none⟩) := by simpa using h1
 have h2' : tmps[3]?.getD undef = .pointer (some ⟨g2, 0, none⟩) := by simpa using h2
 have h3' : tmps[4]?.getD undef = .pointer (some ⟨g3, 0, none⟩) := by simpa using h3
 unfold results
 rw [show Tryd.f25.results = [ResultVar.cell 2 22, ResultVar.cell 3 3, ResultVar.cell 4 27].toArray from rfl, List.mapM_toArray]
 simp only [Sem.run_bind, Sem.run_map]
 simp [List.mapM_cons, h1', h2', h3', asAddr, loadVar, a22, a3, a27, c1, c2, c3]
theorem rod_Parse.leave {n : Nat} {w W : World} {D : Nat} {v1 : Value} {r2 r3 : Int} {tmps : Array Value} {xs : List S39} (hK : W.heap[D]? = some (.deferred (some []))) (hD : w.heap.size + 6 ≤ D)
  (y0 : Boxed W w.heap.size 22 v1) (y1 : Boxed W (w.heap.size + 1) 3 (.int .i64 r2)) (y2 : Boxed W (w.heap.size + 2) 27 (.int .i64 r3)) (hB : Below w.heap.size w W) (hrow : W.ownsRow (w.heap.size + 6) 39 2 v1 xs.length (flat39 xs))
  (t2 : tmps.getD 2 undef = .pointer (some ⟨w.heap.size, 0, none⟩)) (t3 : tmps.getD 3 undef = .pointer (some ⟨w.heap.size + 1, 0, none⟩)) (t4 : tmps.getD 4 undef = .pointer (some ⟨w.heap.size + 1 + 1, 0, none⟩)) :
  LeavesInM Fence.wide n Tryd.prog Tryd.f25 tmps (fun e w' => ∃ v0_, e = .returned (.tuple #[v0_, .int .i64 r2, .int .i64 r3]) ∧ Kd.R k39 39 w' w.heap.size (fun _ => True) v0_ xs ∧ Below w.heap.size w w') [{ target := .collected D, args := #[] }] .returning W := by
 have hg := grownBy_putObj' W D (.deferred none)
 have ne : ∀ b, b < w.heap.size + 6 → some b ≠ some D := fun b hb e => by have := Option.some.inj e; omega
 refine ⟨by simp, .inl ⟨_, _, rfl, run_takeDeferred hK, ⟨_, results_boxes t2 t3 t4 (y0.kept hg (ne _ (by omega))) (y1.kept hg (ne _ (by omega))) (y2.kept hg (ne _ (by omega))), v1, rfl, own_R39 (own_weaken (ownsRow_putObj hrow _ hK rfl) (by omega)), ?_⟩⟩⟩
 exact hB.grown hg hB.size (fun k e => by cases e; omega)
theorem rod_Parse.stored {w W W1 : World} {D : Nat} {u1 u2 u3 : Value} (v1 v2 v3 : Value) {n : Nat} {xs : List Value} (hK : W.heap[D]? = some (.deferred (some []))) (h1 : Below W.heap.size W W1) (hD : w.heap.size + 6 ≤ D)
  (y0 : Boxed W w.heap.size 22 u1) (y1 : Boxed W (w.heap.size + 1) 3 u2) (y2 : Boxed W (w.heap.size + 2) 27 u3) (hB : Below w.heap.size w W) (hrow : W.ownsRow (w.heap.size + 6) 39 2 v1 n xs) :
  (((W1.setCell ⟨w.heap.size, 0, none⟩ v1).setCell ⟨w.heap.size + 1, 0, none⟩ v2).setCell ⟨w.heap.size + 1 + 1, 0, none⟩ v3).heap[D]? = some (.deferred (some [])) ∧
  Boxed (((W1.setCell ⟨w.heap.size, 0, none⟩ v1).setCell ⟨w.heap.size + 1, 0, none⟩ v2).setCell ⟨w.heap.size + 1 + 1, 0, none⟩ v3) w.heap.size 22 v1 ∧
  Boxed (((W1.setCell ⟨w.heap.size, 0, none⟩ v1).setCell ⟨w.heap.size + 1, 0, none⟩ v2).setCell ⟨w.heap.size + 1 + 1, 0, none⟩ v3) (w.heap.size + 1) 3 v2 ∧
  Boxed (((W1.setCell ⟨w.heap.size, 0, none⟩ v1).setCell ⟨w.heap.size + 1, 0, none⟩ v2).setCell ⟨w.heap.size + 1 + 1, 0, none⟩ v3) (w.heap.size + 2) 27 v3 ∧
  Below w.heap.size w (((W1.setCell ⟨w.heap.size, 0, none⟩ v1).setCell ⟨w.heap.size + 1, 0, none⟩ v2).setCell ⟨w.heap.size + 1 + 1, 0, none⟩ v3) ∧
  (((W1.setCell ⟨w.heap.size, 0, none⟩ v1).setCell ⟨w.heap.size + 1, 0, none⟩ v2).setCell ⟨w.heap.size + 1 + 1, 0, none⟩ v3).ownsRow (w.heap.size + 6) 39 2 v1 n xs := by
 have b0 : Boxed W1 w.heap.size 22 u1 := (h1.block _ y0.lt).trans y0
 have b1 : Boxed W1 (w.heap.size + 1) 3 u2 := (h1.block _ y1.lt).trans y1
 have b2 : Boxed W1 (w.heap.size + 2) 27 u3 := (h1.block _ y2.lt).trans y2
 have ho1 := pw_own_below hrow h1
 have no : ∀ b, b < w.heap.size + 6 → some b ≠ v1.ownBlock := fun b hb e => by have := own_base ho1 b e.symm; omega
 refine ⟨?_, ?_, ?_, ?_, ?_, ?_⟩
 ·
  have hd := (h1.block _ (Array.getElem?_eq_some_iff.1 hK).1).trans hK
  exact (Below.heap_setCell _ _ _ _ (by show D ≠ w.heap.size + 1 + 1; omega)).trans ((Below.heap_setCell _ _ _ _ (by show D ≠ w.heap.size + 1; omega)).trans ((Below.heap_setCell _ _ _ _ (by show D ≠ w.heap.size; omega)).trans hd))
 ·
  exact ((b0.set v1).other (by omega) _).other (by omega) _
 ·
  exact ((b1.other (by omega) _).set v2).other (by omega) _
 ·
  exact ((b2.other (by omega) _).other (by omega) _).set v3
 ·
  exact (((below_step hB h1).setCell (p := ⟨w.heap.size, 0, none⟩) (Nat.le_refl _) _).setCell (p := ⟨w.heap.size + 1, 0, none⟩) (by show w.heap.size ≤ w.heap.size + 1; omega) _).setCell (p := ⟨w.heap.size + 1 + 1, 0, none⟩) (by show w.heap.size ≤ w.heap.size + 1 + 1; omega) _
 ·
  exact own_setCell (own_setCell (own_setCell ho1 (no _ (by show w.heap.size < _; omega)) _) (no _ (by show w.heap.size + 1 < _; omega)) _) (no _ (by show w.heap.size + 1 + 1 < _; omega)) _
theorem keeps_set {W : World} {B b : Nat} {t : TypeId} {u : Value} (h : Boxed W b t u) (v : Value) : KeepsFrom B W (W.setCell ⟨b, 0, none⟩ v) := by
 refine ⟨by simp, fun k o hk ho hc => ?_⟩
 by_cases e : k = b
 ·
  subst e
  have h2 : W.heap[k]? = some (.cells #[u] t (0, 0)) := h
  rw [h2] at ho
  cases ho
  cases hc
 ·
  exact (Below.heap_setCell _ _ _ k e).trans ho
set_option maxHeartbeats 8000000 in
set_option maxRecDepth 100000 in
theorem rod_Parse.calls (k : Nat) (a0 : ByteArray) (r1 : List (S39)) (r2 : Int) (r3 : Int) (w : World) (hG : GI w) (h : rod_Parse.f k a0 = some (r1, r2, r3)) :
  Calls Tryd.prog 25 #[.string a0] w fun e w' => ∃ v0_ : Value, e = .returned (.tuple #[v0_, .int .i64 r2, .int .i64 r3]) ∧ Kd.R k39 39 w' w.heap.size (fun _ => True) v0_ r1 ∧ Below w.heap.size w w' := by
 have hu22 := Tryd.underlying22
 unfold rod_Parse.f at h
 refine (callsIn_wide (n := 5)).1 ?_
 refine callsIn_of_wp_marks Tryd.func25 rfl trivial ?_ rfl
 simp only [Tryd.ntmps25, List.size_toArray, List.length_cons, List.length_nil, Nat.reduceAdd, Nat.reduceSub, Array.replicate_succ, Array.replicate_zero, List.push_toArray, List.append_toArray, List.nil_append, List.cons_append]
 by_cases hbig : (a0.size : Int) > 4096
 ·
  rw [if_pos hbig] at h
  cases h
  gi_wp2
  refine ⟨_, results_boxes (g1 := w.heap.size) (g2 := w.heap.size + 1) (g3 := w.heap.size + 1 + 1) rfl rfl rfl (((Boxed.new w 22 _).alloc _).alloc _) ?_ ?_, ⟨_, rfl, Kd.R_nil _ _ _ _ _, ?_⟩⟩
  ·
   have := (Boxed.new (w.alloc (.cells #[.slice none 0 0] 22)) 3 (.int .i64 0)).alloc (.cells #[.int .i64 8] 27)
   rwa [World.size_alloc] at this
  ·
   have := Boxed.new ((w.alloc (.cells #[.slice none 0 0] 22)).alloc (.cells #[.int .i64 0] 3)) 27 (.int .i64 8)
   rwa [World.size_alloc, World.size_alloc] at this
  ·
   exact below_alloc (below_alloc (below_alloc (Below.refl _ _) _) _) _
 ·
  rw [if_neg hbig] at h
  obtain ⟨W0, hW0⟩ : ∃ W0, W0 = (((((w.alloc (.cells #[.slice none 0 0] 22)).alloc (.cells #[.int .i64 0] 3)).alloc (.cells #[.int .i64 0] 27)).alloc (.cells #[.slice none 0 0] 22)).alloc (.cells #[.int .i64 0] 3)).alloc (.cells #[.string a0] 9) := ⟨_, rfl⟩
  have hsz : W0.heap.size = w.heap.size + 6 := by rw [hW0]; simp [World.size_alloc]
  have hB0 : Below w.heap.size w W0 := by rw [hW0]; exact below_alloc (below_alloc (below_alloc (below_alloc (below_alloc (below_alloc (Below.refl _ _) _) _) _) _) _) _
  have x0 : Boxed W0 w.heap.size 22 (.slice none 0 0) := by rw [hW0]; exact (((((Boxed.new w 22 _).alloc _).alloc _).alloc _).alloc _).alloc _
  have x1 : Boxed W0 (w.heap.size + 1) 3 (.int .i64 0) := by
   rw [hW0]
   have := ((((Boxed.new (w.alloc (.cells #[.slice none 0 0] 22)) 3 (.int .i64 0)).alloc (.cells #[.int .i64 0] 27)).alloc (.cells #[.slice none 0 0] 22)).alloc (.cells #[.int .i64 0] 3)).alloc (.cells #[.string a0] 9)
   simpa only [World.size_alloc] using this
  have x2 : Boxed W0 (w.heap.size + 2) 27 (.int .i64 0) := by
   rw [hW0]
   have := (((Boxed.new ((w.alloc (.cells #[.slice none 0 0] 22)).alloc (.cells #[.int .i64 0] 3)) 27 (.int .i64 0)).alloc (.cells #[.slice none 0 0] 22)).alloc (.cells #[.int .i64 0] 3)).alloc (.cells #[.string a0] 9)
   simpa only [World.size_alloc] using this
  have x3 : Boxed W0 (w.heap.size + 3) 22 (.slice none 0 0) := by
   rw [hW0]
   have := ((Boxed.new (((w.alloc (.cells #[.slice none 0 0] 22)).alloc (.cells #[.int .i64 0] 3)).alloc (.cells #[.int .i64 0] 27)) 22 (.slice none 0 0)).alloc (.cells #[.int .i64 0] 3)).alloc (.cells #[.string a0] 9)
   simpa only [World.size_alloc] using this
  have x4 : Boxed W0 (w.heap.size + 4) 3 (.int .i64 0) := by
   rw [hW0]
   have := (Boxed.new ((((w.alloc (.cells #[.slice none 0 0] 22)).alloc (.cells #[.int .i64 0] 3)).alloc (.cells #[.int .i64 0] 27)).alloc (.cells #[.slice none 0 0] 22)) 3 (.int .i64 0)).alloc (.cells #[.string a0] 9)
   simpa only [World.size_alloc] using this
  have x5 : Boxed W0 (w.heap.size + 5) 9 (.string a0) := by
   rw [hW0]
   have := Boxed.new (((((w.alloc (.cells #[.slice none 0 0] 22)).alloc (.cells #[.int .i64 0] 3)).alloc (.cells #[.int .i64 0] 27)).alloc (.cells #[.slice none 0 0] 22)).alloc (.cells #[.int .i64 0] 3)) 9 (.string a0)
   simpa only [World.size_alloc] using this
  gi_wp2_with (refine ⟨trivial, ?_⟩; gi_at_call 45; refine (lines_calls a0 _).mono ?_; rintro e w' ⟨rfl, rfl⟩)
  have hseq := lines_box (w.heap.size + 5) a0 (by omega) W0 x5
  try simp only [World.size_alloc]
  rw [← hW0]
  refine wpIn_rangeFunc_box (F := Fence.wide) (n := 5) (b := w.heap.size + 5) rfl (by decide) (gf := 56) (lb := #[.pointer (some ⟨w.heap.size + 5, 0, none⟩)]) rfl trivial (enters_of Tryd.func56 (by kernel_rfl) rfl) hseq (by omega) (Below.refl _ _) (fun _ => rfl)
   (rod_Parse.I k a0 (r1, r2, r3) w) (rod_Parse.Ix (r1, r2, r3) w) ?hIG ?hI ?hIx ?h0
   (fun x => { tmps := #[.string a0, undef, .pointer (some ⟨w.heap.size, 0, none⟩), .pointer (some ⟨w.heap.size + 1, 0, none⟩), .pointer (some ⟨w.heap.size + 1 + 1, 0, none⟩), .pointer (some ⟨w.heap.size + 1 + 1 + 1, 0, none⟩), .pointer (some ⟨w.heap.size + 1 + 1 + 1 + 1, 0, none⟩), .string x.1, .bool x.2, undef, undef, undef, undef, undef, undef, undef, undef, .string a0, .int .i64 (a0.size : Int), .bool false, .string a0, .func (.func 56) #[] #[.pointer (some ⟨w.heap.size + 1 + 1 + 1 + 1 + 1, 0, none⟩)], .string x.1, .bool x.2, undef, undef, undef, undef, undef, undef, undef, undef, undef, undef, undef, undef, undef, undef, undef, undef, undef, undef, undef, undef, undef, undef, undef, undef, undef, undef, undef, undef, undef, undef, undef, undef, undef, undef, undef, undef, undef, undef, undef, undef, undef], defers := [] }) ?assign ?body ?done ?stop
  case hIG =>
   rintro pre W ⟨_, _, _, _, _, _, _, _, _, hB, _⟩
   exact GI.below hG hB
  case hI =>
   rintro s W W' row ⟨acc, v, rest, q1, q2, hv, hn, ho, ⟨y0, y1, y2⟩, hB, hW5⟩ hg hr
   rw [hsz] at hr
   exact ⟨acc, v, rest, q1, q2, box_turn hv hg hr (by omega) (by omega), box_turn hn hg hr (by omega) (by omega), own_turn ho hg hr (by omega), ⟨box_turn y0 hg hr (by omega) (by omega), box_turn y1 hg hr (by omega) (by omega), box_turn y2 hg hr (by omega) (by omega)⟩, hB.grown hg hB.size (fun k e => by rcases hr k e with q | q <;> omega), Nat.le_trans hW5 hg.size⟩
  case hIx =>
   rintro s W W' row ⟨q1, ⟨y0, y1, y2⟩, hB⟩ hg hr
   rw [hsz] at hr
   exact ⟨q1, ⟨box_turn y0 hg hr (by omega) (by omega), box_turn y1 hg hr (by omega) (by omega), box_turn y2 hg hr (by omega) (by omega)⟩, hB.grown hg hB.size (fun k e => by rcases hr k e with q | q <;> omega)⟩
  case h0 => exact ⟨[], _, lns a0, rfl, h, x3, x4, World.ownsRow_nil _ _ _ _, ⟨x0, x1, x2⟩, hB0, by omega⟩
  case assign =>
   intro l x W K hK
   dsimp only [lencs]
   gi_wp2
   exact hK
  case body =>
   rintro l pre x W2 ⟨acc, v, rest, q1, q2, hv2, hn2, ho2, ⟨z0, z1, z2⟩, hB2, hW52⟩ hpre
   obtain ⟨more, hmore⟩ := hpre
   have hrest : rest = x :: more := by
    rw [← hmore, List.append_assoc] at q1
    exact (List.append_cancel_left q1).symm
   subst hrest
   unfold rod_Parse.rows at q2
   by_cases hacc : acc.length < 4294967296
   case neg => rw [if_neg hacc] at q2; cases q2
   rw [if_pos hacc] at q2
   replace q2 := Option.bind_eq_some_iff.mp q2
   obtain ⟨y, hy, q2⟩ := q2
   unfold rod_Parse.line at hy
   replace hy := Option.bind_eq_some_iff.mp hy
   obtain ⟨⟨ca, cb, cc⟩, hcut, hy⟩ := hy
   replace hy := Option.bind_eq_some_iff.mp hy
   obtain ⟨⟨n1, o1⟩, hn1, hy⟩ := hy
   replace hy := Option.bind_eq_some_iff.mp hy
   obtain ⟨⟨n3, o3⟩, hn3, hy⟩ := hy
   dsimp only at hn1 hn3 hy
   obtain ⟨Av, cv, rfl⟩ := own_slice ho2
   have hGW2 := GI.below hG hB2
   have mixed : Tryd.prog.follows Departure.mixedOrders = true := by kernel_rfl
   have hinc : wrap64 ((acc.length : Int) + 1) = (acc.length : Int) + 1 := by unfold wrap64; omega
   have hc := hn2.cell
   have hf := hn2.frozen
   obtain ⟨W, hW⟩ : ∃ W, W = W2.setCell ⟨w.heap.size + 1 + 1 + 1 + 1, 0, none⟩ (.int .i64 ((acc.length : Int) + 1)) := ⟨_, rfl⟩
   have ne2 : ∀ b, b < w.heap.size + 6 → some b ≠ (Value.slice Av acc.length cv).ownBlock := fun b hb e => by have := own_base ho2 b e.symm; omega
   have hv : Boxed W (w.heap.size + 3) 22 (.slice Av acc.length cv) := by rw [hW]; exact hv2.other (by omega) _
   have hn : Boxed W (w.heap.size + 4) 3 (.int .i64 ((acc.length : Int) + 1)) := by rw [hW]; exact hn2.set _
   have y0 : Boxed W w.heap.size 22 (.slice none 0 0) := by rw [hW]; exact z0.other (by omega) _
   have y1 : Boxed W (w.heap.size + 1) 3 (.int .i64 0) := by rw [hW]; exact z1.other (by omega) _
   have y2 : Boxed W (w.heap.size + 2) 27 (.int .i64 0) := by rw [hW]; exact z2.other (by omega) _
   have ho : W.ownsRow (w.heap.size + 6) 39 2 (.slice Av acc.length cv) acc.length (flat39 acc) := by rw [hW]; exact own_setCell ho2 (ne2 _ (by show w.heap.size + 1 + 1 + 1 + 1 < _; omega)) _
   have hB : Below w.heap.size w W := by rw [hW]; exact hB2.setCell (p := ⟨w.heap.size + 1 + 1 + 1 + 1, 0, none⟩) (by show w.heap.size ≤ w.heap.size + 1 + 1 + 1 + 1; omega) _
   have hW5 : w.heap.size + 6 ≤ W.heap.size := by rw [hW]; simpa using hW52
   have hKW : KeepsFrom W0.heap.size W2 W := by rw [hW]; exact keeps_set hn2 _
   have hbx : W.heap[w.heap.size + 5]? = W2.heap[w.heap.size + 5]? := by rw [hW]; exact Below.heap_setCell _ _ _ _ (by show w.heap.size + 5 ≠ w.heap.size + 1 + 1 + 1 + 1; omega)
   have hGW := GI.below hG hB
   obtain ⟨xs, xb⟩ := x
   dsimp only at hcut hy ⊢
   by_cases hgood : xb = true ∧ o1 = true ∧ o3 = true
   case neg =>
    rw [if_neg hgood] at hy
    cases hy
    cases q2
    have hwhich : xb = false ∨ (xb = true ∧ o1 = false) ∨ (xb = true ∧ o1 = true ∧ o3 = false) := by
     cases xb <;> cases o1 <;> cases o3 <;> simp_all
    rcases hwhich with rfl | ⟨rfl, rfl⟩ | ⟨rfl, rfl, rfl⟩
    all_goals
     gi_wp2_with (first | (refine ⟨trivial, ?_⟩; gi_at_call 46; (try simp only [hinc]); rw [← hW]; refine (CallsIn.inRound l (callsIn_wide.2 (strings_Cut.calls xs ⟨#[32]⟩ ca cb cc W hGW hcut))).mono ?_; rintro e w1 ⟨rfl, hb1⟩) | (refine ⟨trivial, ?_⟩; gi_at_call 47; refine (CallsIn.inRound l (callsIn_wide.2 (rod_number.calls k ca n1 _ w1 hn1))).mono ?_; rintro e w2 ⟨rfl, hd2⟩; have hb2 := hd2.below; clear hn1) | (refine ⟨trivial, ?_⟩; gi_at_call 47; refine (CallsIn.inRound l (callsIn_wide.2 (rod_number.calls k cb n3 _ w2 hn3))).mono ?_; rintro e w3 ⟨rfl, hd3⟩; have hb3 := hd3.below; have hb13 := below_step (below_step hb1 hb2) hb3; have zn : w3.cell? ⟨w.heap.size + 1 + 1 + 1 + 1, 0, none⟩ = some (.int .i64 ((acc.length : Int) + 1)) := (box_facts hn hb13).1; have z0 : w3.cell? ⟨w.heap.size, 0, none⟩ = some (.slice none 0 0) := (box_facts y0 hb13).1; have z1 : w3.cell? ⟨w.heap.size + 1, 0, none⟩ = some (.int .i64 0) := (box_facts y1 hb13).1; have z2 : w3.cell? ⟨w.heap.size + 1 + 1, 0, none⟩ = some (.int .i64 0) := (box_facts y2 hb13).1; have z3 : w3.cell? ⟨w.heap.size + 1 + 1 + 1, 0, none⟩ = some (.slice Av acc.length cv) := (box_facts hv hb13).1; have g0 : w3.frozen? ⟨w.heap.size, 0, none⟩ = false := (box_facts y0 hb13).2; have g1 : w3.frozen? ⟨w.heap.size + 1, 0, none⟩ = false := (box_facts y1 hb13).2; have g2 : w3.frozen? ⟨w.heap.size + 1 + 1, 0, none⟩ = false := (box_facts y2 hb13).2))
     gi_region_o
     all_goals gi_wp2
     all_goals exact ⟨hKW.trans (rod_Parse.failed (B := W0.heap.size) ((acc.length : Int) + 1) [] hB hb13 (by omega) y0 y1 y2).1, (rod_Parse.failed (B := W0.heap.size) ((acc.length : Int) + 1) _ hB hb13 (by omega) y0 y1 y2).2⟩
   case pos =>
    rw [if_pos hgood] at hy
    cases hy
    obtain ⟨rfl, rfl, rfl⟩ := hgood
    obtain ⟨i0, hi0, hz0, hzs, hzb⟩ := info_parts info39
    gi_wp2_with (first | (refine ⟨trivial, ?_⟩; gi_at_call 46; (try simp only [hinc]); rw [← hW]; refine (CallsIn.inRound l (callsIn_wide.2 (strings_Cut.calls xs ⟨#[32]⟩ ca cb cc W hGW hcut))).mono ?_; rintro e w1 ⟨rfl, hb1⟩) | (refine ⟨trivial, ?_⟩; gi_at_call 47; refine (CallsIn.inRound l (callsIn_wide.2 (rod_number.calls k ca n1 _ w1 hn1))).mono ?_; rintro e w2 ⟨rfl, hd2⟩; have hb2 := hd2.below; clear hn1) | (refine ⟨trivial, ?_⟩; gi_at_call 47; refine (CallsIn.inRound l (callsIn_wide.2 (rod_number.calls k cb n3 _ w2 hn3))).mono ?_; rintro e w3 ⟨rfl, hd3⟩; have hb3 := hd3.below; have hb13 := below_step (below_step hb1 hb2) hb3; have zn : w3.cell? ⟨w.heap.size + 1 + 1 + 1 + 1, 0, none⟩ = some (.int .i64 ((acc.length : Int) + 1)) := (box_facts hn hb13).1; have z0 : w3.cell? ⟨w.heap.size, 0, none⟩ = some (.slice none 0 0) := (box_facts y0 hb13).1; have z1 : w3.cell? ⟨w.heap.size + 1, 0, none⟩ = some (.int .i64 0) := (box_facts y1 hb13).1; have z2 : w3.cell? ⟨w.heap.size + 1 + 1, 0, none⟩ = some (.int .i64 0) := (box_facts y2 hb13).1; have z3 : w3.cell? ⟨w.heap.size + 1 + 1 + 1, 0, none⟩ = some (.slice Av acc.length cv) := (box_facts hv hb13).1; have g0 : w3.frozen? ⟨w.heap.size, 0, none⟩ = false := (box_facts y0 hb13).2; have g1 : w3.frozen? ⟨w.heap.size + 1, 0, none⟩ = false := (box_facts y1 hb13).2; have g2 : w3.frozen? ⟨w.heap.size + 1 + 1, 0, none⟩ = false := (box_facts y2 hb13).2) | (gi_at_builtin; refine wpListIn_append_own _ rfl _ _ 22 rfl (w.heap.size + 6) 39 i0 (.agg #[(.int .i64 0), (.int .i64 0)]) 2 16 Tryd.underlying22 hi0 hz0 hzs hzb rfl (by decide) _ _ _ rfl (own_alloc (pw_own_below ho hb13) _) ⟨w3.heap.size, 0, none⟩ 1 1 [.int .i64 n1, .int .i64 n3] rfl rfl (two_cells _ _ _ _) (by simp [Value.oneCell']) (by unfold maxLen; omega) (by omega) (by have := hb13.size; rw [World.size_alloc]; omega) ?_; intro v' w4 hown' hgrow _; obtain ⟨g', cap', rfl⟩ := ownsRow_succ hown'; have hc4 : w4.cell? ⟨w.heap.size + 1 + 1 + 1, 0, none⟩ = some (.slice Av acc.length cv) := (box_grown hv hb13 (by decide) (pw_own_below ho hb13) hgrow).cell; have hf4 : w4.frozen? ⟨w.heap.size + 1 + 1 + 1, 0, none⟩ = false := (box_grown hv hb13 (by decide) (pw_own_below ho hb13) hgrow).frozen))
    have hwent := rod_Parse.went (B := W0.heap.size) (a0 := a0) (pre := pre) (x := (xs, true)) (by rw [q1, List.append_assoc]; rfl) q2 hB hb13 hv ho (by omega) hn y0 y1 y2 hown' hgrow
    exact ⟨hKW.trans hwent.1, hwent.2.1.trans hbx, hwent.2.2⟩
  case done =>
   rintro W ⟨acc, v, rest, q1, q2, hv, hn, ho, ⟨y0, y1, y2⟩, hB, hW5⟩ hD
   have hrest : rest = [] := by simpa using q1
   subst hrest
   unfold rod_Parse.rows at q2
   replace q2 := Option.bind_eq_some_iff.mp q2
   obtain ⟨d2, hck, q2⟩ := q2
   obtain ⟨Av, cv, hse, hle, hC⟩ := Kd.R_reads (own_R39 ho)
   subst hse
   have hc : W.cell? ⟨w.heap.size + 1 + 1 + 1, 0, none⟩ = some (.slice Av acc.length cv) := hv.cell
   have hDs : w.heap.size + 6 ≤ W0.heap.size := by omega
   by_cases hd : d2 = 0
   ·
    rw [if_pos hd] at q2
    cases q2
    subst hd
    gi_wp2_with (refine ⟨trivial, ?_⟩; gi_at_call 21; refine (callsIn_wide.2 (rod_Check.calls k Av cv r1 0 W hC hle hck)).mono ?_; rintro e w1 ⟨rfl, hb1⟩; have z0 : w1.cell? ⟨w.heap.size, 0, none⟩ = some (.slice none 0 0) := (box_facts y0 hb1).1; have z1 : w1.cell? ⟨w.heap.size + 1, 0, none⟩ = some (.int .i64 0) := (box_facts y1 hb1).1; have z2 : w1.cell? ⟨w.heap.size + 1 + 1, 0, none⟩ = some (.int .i64 0) := (box_facts y2 hb1).1; have z3 : w1.cell? ⟨w.heap.size + 1 + 1 + 1, 0, none⟩ = some (.slice Av r1.length cv) := (box_facts hv hb1).1; have g0 : w1.frozen? ⟨w.heap.size, 0, none⟩ = false := (box_facts y0 hb1).2; have g1 : w1.frozen? ⟨w.heap.size + 1, 0, none⟩ = false := (box_facts y1 hb1).2; have g2 : w1.frozen? ⟨w.heap.size + 1 + 1, 0, none⟩ = false := (box_facts y2 hb1).2)
    have hDD : W0.heap.size = w.heap.size + 1 + 1 + 1 + 1 + 1 + 1 := by omega
    rw [hDD] at hD hDs
    obtain ⟨hK, b0, b1, b2, hB', hrow⟩ := rod_Parse.stored (.slice Av r1.length cv) (.int .i64 0) (.int .i64 0) hD hb1 hDs y0 y1 y2 hB ho
    exact rod_Parse.leave hK hDs b0 b1 b2 hB' hrow rfl rfl rfl
   ·
    rw [if_neg hd] at q2
    cases q2
    have hdd : ¬ (r3 = 0) := hd
    gi_wp2_with (refine ⟨trivial, ?_⟩; gi_at_call 21; refine (callsIn_wide.2 (rod_Check.calls k Av cv acc r3 W hC hle hck)).mono ?_; rintro e w1 ⟨rfl, hb1⟩; have z0 : w1.cell? ⟨w.heap.size, 0, none⟩ = some (.slice none 0 0) := (box_facts y0 hb1).1; have z1 : w1.cell? ⟨w.heap.size + 1, 0, none⟩ = some (.int .i64 0) := (box_facts y1 hb1).1; have z2 : w1.cell? ⟨w.heap.size + 1 + 1, 0, none⟩ = some (.int .i64 0) := (box_facts y2 hb1).1; have z3 : w1.cell? ⟨w.heap.size + 1 + 1 + 1, 0, none⟩ = some (.slice Av acc.length cv) := (box_facts hv hb1).1; have g0 : w1.frozen? ⟨w.heap.size, 0, none⟩ = false := (box_facts y0 hb1).2; have g1 : w1.frozen? ⟨w.heap.size + 1, 0, none⟩ = false := (box_facts y1 hb1).2; have g2 : w1.frozen? ⟨w.heap.size + 1 + 1, 0, none⟩ = false := (box_facts y2 hb1).2)
    have hDD : W0.heap.size = w.heap.size + 1 + 1 + 1 + 1 + 1 + 1 := by omega
    rw [hDD] at hD hDs
    obtain ⟨hK, b0, b1, b2, hB', hrow⟩ := rod_Parse.stored (.slice none 0 0) (.int .i64 0) (.int .i64 r3) hD hb1 hDs y0 y1 y2 hB (World.ownsRow_nil _ _ _ _ : W.ownsRow (w.heap.size + 6) 39 2 (.slice none 0 0) 0 [])
    exact rod_Parse.leave (xs := []) hK hDs b0 b1 b2 hB' hrow rfl rfl rfl
  case stop =>
   rintro pre W _ ⟨hr1, ⟨y0, y1, y2⟩, hB⟩ hD
   dsimp only at hr1 y1 y2
   subst hr1
   gi_wp2
   exact rod_Parse.leave hD (by omega) y0 y1 y2 hB (World.ownsRow_nil _ _ _ _) rfl rfl rfl
end
end Go.Proofs.YtkolhpacpbhceaaDoor.Pr
namespace Go.Proofs.YtkolhpacpbhceaaDoor.Pr
open Go.RowKit Go.Proofs.YtkolhpacpbhceaaDoorW.PrintWords Go.Proofs.YtkolhpacpbhceaaDoorW.PrintLast Go.Proofs.YtkolhpacpbhceaaDoorW.PrintMore Go.Proofs.YtkolhpacpbhceaaDoor.X
attribute [local go_sem] max2_int min2_int max_two min_two max_three min_three max_four min_four   -- for this text's walks alone
set_option linter.unusedVariables false
set_option linter.unusedSimpArgs false
def dip_volume.f (a0 : Int) : Option (Bool) := if a0 ≥ 0 then (some (decide (a0 ≤ 4294967296))) else (some false)
set_option maxHeartbeats 8000000 in
set_option maxRecDepth 100000 in
theorem dip_volume.calls (a0 : Int) (r : Bool) (w : World) (h : dip_volume.f a0 = some r) :
  Calls Tryd.prog 50 #[.int .i64 a0] w fun e w' => e = .returned (.bool r) ∧ Drawn0 w w' := by
 have H : (if a0 ≥ 0 then (some (decide (a0 ≤ 4294967296))) else (some false)) = some r := h
 clear h
 by_cases c2 : a0 ≥ 0
 ·
  rw [if_pos c2] at H
  have c2b0 : decide (0 ≤ a0) = true := decide_eq_true c2
  clear c2
  obtain rfl := Option.some.inj H
  go_enter Tryd.func50, Tryd.ntmps50
  go_wp2
  go_ret
  exact ⟨by first | rfl | (simp; done) | (simp [*]; done), by repeat (first | exact Drawn0.refl _ | apply Drawn0.step)⟩
 ·
  rw [if_neg c2] at H
  have c2b0 : decide (0 ≤ a0) = false := decide_eq_false c2
  clear c2
  obtain rfl := Option.some.inj H
  go_enter Tryd.func50, Tryd.ntmps50
  go_wp2
  go_ret
  exact ⟨by first | rfl | (simp; done) | (simp [*]; done), by repeat (first | exact Drawn0.refl _ | apply Drawn0.step)⟩
def dip_Check_1.f (a0_0 : Int) (a0_1 : Int) : Option (Bool) := if a0_0 < 0 then (some true) else (if a0_0 > 200000 then (some true) else ((dip_volume.f a0_1).bind fun t102 => (some (!t102))))
set_option maxHeartbeats 8000000 in
set_option maxRecDepth 100000 in
theorem dip_Check_1.calls (a0_0 : Int) (a0_1 : Int) (r : Bool) (w : World) (h : dip_Check_1.f a0_0 a0_1 = some r) :
  Calls Tryd.prog 51 #[.agg #[.int .i64 a0_0, .int .i64 a0_1]] w fun e w' => e = .returned (.bool r) ∧ Below w.heap.size w w' := by
 have hu39 := Tryd.underlying39
 have HB := Aside0.mk (Below.refl w.heap.size w)
 have H : (if a0_0 < 0 then (some true) else (if a0_0 > 200000 then (some true) else ((dip_volume.f a0_1).bind fun t102 => (some (!t102))))) = some r := h
 clear h
 by_cases c2 : a0_0 < 0
 ·
  rw [if_pos c2] at H
  have c2b0 : decide (a0_0 < 0) = true := decide_eq_true c2
  clear c2
  obtain rfl := Option.some.inj H
  go_enter Tryd.func51, Tryd.ntmps51
  go_wp2_with (first | ((with_reducible refine gate_dst (N := 1) rfl ?_); refine box_event ?hg (N := 1) ?hd (cs := #[.int .i64 a0_0, .int .i64 a0_1]) (t := 39) ?hr ?_; (case hd => rfl); (case hg => rfl); (case hr => first | (go_simp; done) | (go_simp; rfl)); intro gb101 hg w3 hbox hb; have n0_ := Aside0.mk (below_step (by repeat (first | (with_reducible first | exact HB.out | apply below_alloc | apply pw_below_drewN | apply below_drew1) | exact HB.out)) hb); have n1_ := Aside0.mk (hbox); have n2_ := Aside0.mk ((by rw [hg]; exact (below_size (by repeat (first | (with_reducible first | exact HB.out | apply below_alloc | apply pw_below_drewN | apply below_drew1) | exact HB.out))) : w.heap.size ≤ gb101)); have n3_ := Aside0.mk ((by rw [hg]; exact (below_size (by repeat (first | (with_reducible first | exact HB.out | apply below_alloc | apply pw_below_drewN | apply below_drew1) | exact HB.out))) : w.heap.size ≤ gb101)); clear HB; have HB := n0_; have BK101 := n1_; have GW101 := n2_; have GE101 := n3_; clear n0_ n1_ n2_ n3_; clear hb hbox hg; have hcz4_0 : w3.cell? ⟨gb101, 0, none⟩ = some (.int .i64 a0_0) := (blk_cell BK101.out 0).trans rfl; have hcz4_1 : w3.cell? ⟨gb101, 1, none⟩ = some (.int .i64 a0_1) := (blk_cell BK101.out 1).trans rfl; have hfz4_0 := blk_frozen BK101.out 0; have hfz4_1 := blk_frozen BK101.out 1))
  go_ret
  exact ⟨by first | rfl | (simp [errW_none, errW_some] <;> rfl) | (simp [*, errW_none, errW_some] <;> rfl), by repeat (first | (with_reducible first | exact HB.out | apply below_alloc | apply pw_below_drewN | apply below_drew1 | refine below_set ?_ GE101.out) | exact HB.out)⟩
 ·
  rw [if_neg c2] at H
  have c2b0 : decide (a0_0 < 0) = false := decide_eq_false c2
  clear c2
  by_cases c5 : a0_0 > 200000
  ·
   rw [if_pos c5] at H
   have c5b0 : decide (200000 < a0_0) = true := decide_eq_true c5
   clear c5
   obtain rfl := Option.some.inj H
   go_enter Tryd.func51, Tryd.ntmps51
   go_wp2_with (first | ((with_reducible refine gate_dst (N := 1) rfl ?_); refine box_event ?hg (N := 1) ?hd (cs := #[.int .i64 a0_0, .int .i64 a0_1]) (t := 39) ?hr ?_; (case hd => rfl); (case hg => rfl); (case hr => first | (go_simp; done) | (go_simp; rfl)); intro gb101 hg w6 hbox hb; have n0_ := Aside0.mk (below_step (by repeat (first | (with_reducible first | exact HB.out | apply below_alloc | apply pw_below_drewN | apply below_drew1) | exact HB.out)) hb); have n1_ := Aside0.mk (hbox); have n2_ := Aside0.mk ((by rw [hg]; exact (below_size (by repeat (first | (with_reducible first | exact HB.out | apply below_alloc | apply pw_below_drewN | apply below_drew1) | exact HB.out))) : w.heap.size ≤ gb101)); have n3_ := Aside0.mk ((by rw [hg]; exact (below_size (by repeat (first | (with_reducible first | exact HB.out | apply below_alloc | apply pw_below_drewN | apply below_drew1) | exact HB.out))) : w.heap.size ≤ gb101)); clear HB; have HB := n0_; have BK101 := n1_; have GW101 := n2_; have GE101 := n3_; clear n0_ n1_ n2_ n3_; clear hb hbox hg; have hcz7_0 : w6.cell? ⟨gb101, 0, none⟩ = some (.int .i64 a0_0) := (blk_cell BK101.out 0).trans rfl; have hcz7_1 : w6.cell? ⟨gb101, 1, none⟩ = some (.int .i64 a0_1) := (blk_cell BK101.out 1).trans rfl; have hfz7_0 := blk_frozen BK101.out 0; have hfz7_1 := blk_frozen BK101.out 1))
   go_ret
   exact ⟨by first | rfl | (simp [errW_none, errW_some] <;> rfl) | (simp [*, errW_none, errW_some] <;> rfl), by repeat (first | (with_reducible first | exact HB.out | apply below_alloc | apply pw_below_drewN | apply below_drew1 | refine below_set ?_ GE101.out) | exact HB.out)⟩
  ·
   rw [if_neg c5] at H
   have c5b0 : decide (200000 < a0_0) = false := decide_eq_false c5
   clear c5
   replace H := Option.bind_eq_some_iff.mp H
   obtain ⟨t102, A80, H⟩ := H
   replace H : (some (!t102)) = some r := H
   have A8 := Aside0.mk A80
   clear A80
   obtain rfl := Option.some.inj H
   go_enter Tryd.func51, Tryd.ntmps51
   go_wp2_with (first | ((with_reducible refine gate_dst (N := 1) rfl ?_); refine box_event ?hg (N := 1) ?hd (cs := #[.int .i64 a0_0, .int .i64 a0_1]) (t := 39) ?hr ?_; (case hd => rfl); (case hg => rfl); (case hr => first | (go_simp; done) | (go_simp; rfl)); intro gb101 hg w9 hbox hb; have n0_ := Aside0.mk (below_step (by repeat (first | (with_reducible first | exact HB.out | apply below_alloc | apply pw_below_drewN | apply below_drew1) | exact HB.out)) hb); have n1_ := Aside0.mk (hbox); have n2_ := Aside0.mk ((by rw [hg]; exact (below_size (by repeat (first | (with_reducible first | exact HB.out | apply below_alloc | apply pw_below_drewN | apply below_drew1) | exact HB.out))) : w.heap.size ≤ gb101)); have n3_ := Aside0.mk ((by rw [hg]; exact (below_size (by repeat (first | (with_reducible first | exact HB.out | apply below_alloc | apply pw_below_drewN | apply below_drew1) | exact HB.out))) : w.heap.size ≤ gb101)); clear HB; have HB := n0_; have BK101 := n1_; have GW101 := n2_; have GE101 := n3_; clear n0_ n1_ n2_ n3_; clear hb hbox hg; have hcz10_0 : w9.cell? ⟨gb101, 0, none⟩ = some (.int .i64 a0_0) := (blk_cell BK101.out 0).trans rfl; have hcz10_1 : w9.cell? ⟨gb101, 1, none⟩ = some (.int .i64 a0_1) := (blk_cell BK101.out 1).trans rfl; have hfz10_0 := blk_frozen BK101.out 0; have hfz10_1 := blk_frozen BK101.out 1) | (go_at_call 50; (with_reducible refine (dip_volume.calls a0_1 t102 _ A8.out).mono ?_); rintro e w' ⟨rfl, ⟨nd, rfl⟩⟩))
   go_ret
   exact ⟨by first | rfl | (simp [errW_none, errW_some] <;> rfl) | (simp [*, errW_none, errW_some] <;> rfl), by repeat (first | (with_reducible first | exact HB.out | apply below_alloc | apply pw_below_drewN | apply below_drew1 | refine below_set ?_ GE101.out) | exact HB.out)⟩
def api_Mark_38_at_51.l0 : Nat → List (S39) → Int → Int → Option (Int)
 | 0, _, _, _ => none
 | k + 1, x0, x7, x8 => if x8 < x7 then (if 0 ≤ x8 then (if x8 < (x0.length : Int) then ((dip_Check_1.f ((rd_T39 x0 x8).f0) ((rd_T39 x0 x8).f1)).bind fun t104 => (if t104 = true then (some x8) else (api_Mark_38_at_51.l0 k x0 x7 (wrap64 (x8 + 1))))) else (none)) else (none)) else (some (-1))
def api_Mark_38_at_51.f (k : Nat) (l0 : List (S39))  : Option (Int) := api_Mark_38_at_51.l0 k l0 (l0.length : Int) 0
set_option maxHeartbeats 8000000 in
set_option maxRecDepth 100000 in
theorem api_Mark_38_at_51.calls (k : Nat) (A0 : Option Addr) (c0 : Nat) (l0 : List (S39))  (r : Int) (w : World) (hr0 : Kd.C k39 w A0 l0.length l0) (hc0 : l0.length ≤ c0) (h : api_Mark_38_at_51.f k l0 = some r) :
  Calls Tryd.prog 38 #[.slice A0 l0.length c0, .func (.func 51) #[] #[]] w fun e w' => e = .returned (.int .i64 r) ∧ Below w.heap.size w w' := by
 have hu39 := Tryd.underlying39
 have HR0 := Aside0.mk hr0
 have HC0 := Aside0.mk hc0
 clear hr0 hc0
 have HB := Aside0.mk (Below.refl w.heap.size w)
 have H : (api_Mark_38_at_51.l0 k l0 (l0.length : Int) 0) = some r := h
 clear h
 have H' := Aside0.mk H
 clear H
 go_enter Tryd.func38, Tryd.ntmps38
 go_wp2
 go_loopg [8] k (fun kq v8 w' => ∃ (x8_1 : Int), v8 = .int .i64 x8_1 ∧ Aside0 (api_Mark_38_at_51.l0 kq l0 (l0.length : Int) x8_1 = some r) ∧ Aside0 (kq ≤ k) ∧ Aside0 (Below w.heap.size w w'))
 case atStart => exact ⟨(0), (by first | rfl | (simp; done) | (simp [*]; done)), H', ⟨Nat.le_refl _⟩, ⟨by repeat (first | (with_reducible first | exact HB.out | apply below_alloc | apply pw_below_drewN | apply below_drew1) | exact HB.out)⟩⟩
 case round =>
  clear H'
  try clear p2
  obtain ⟨x8_1, rfl, HA, HK1, HB⟩ := hrel
  cases gk with
  | zero => exact absurd HA.out (by simp [api_Mark_38_at_51.l0])
  | succ k1 =>
   have H := HA.out
   clear HA
   simp only [api_Mark_38_at_51.l0] at H
   by_cases c3 : x8_1 < (l0.length : Int)
   ·
    rw [if_pos c3] at H
    have c3b0 : decide (x8_1 < (l0.length : Int)) = true := decide_eq_true c3
    clear c3
    by_cases c4 : 0 ≤ x8_1
    ·
     rw [if_pos c4] at H
     have c4b0 : decide (0 ≤ x8_1) = true := decide_eq_true c4
     clear c4
     by_cases c5 : x8_1 < (l0.length : Int)
     ·
      rw [if_pos c5] at H
      have c5b0 : decide (x8_1 < (l0.length : Int)) = true := decide_eq_true c5
      clear c5
      replace H := Option.bind_eq_some_iff.mp H
      obtain ⟨t104, A60, H⟩ := H
      replace H : (if t104 = true then (some x8_1) else (api_Mark_38_at_51.l0 k1 l0 (l0.length : Int) (wrap64 (x8_1 + 1)))) = some r := H
      have A6 := Aside0.mk A60
      clear A60
      by_cases c7 : t104 = true
      ·
       subst c7
       have H1 : (some x8_1) = some r := by rw [if_pos rfl] at H; exact H
       clear H
       have H := H1
       clear H1
       obtain rfl := Option.some.inj H
       have p103 : 0 ≤ (x8_1 : Int) := of_decide_eq_true (by first | (with_reducible assumption) | assumption)
       have q103 : x8_1 < (l0.length : Int) := of_decide_eq_true (by first | (with_reducible assumption) | assumption)
       obtain ⟨ad103, e103, hx103_0, hx103_1⟩ := at_T39 HR0.out x8_1 p103 q103
       cases e103
       replace hx103_0 := (HB.out.cell (World.block_lt_of_cell? w _ hx103_0)).trans hx103_0
       replace hx103_1 := (HB.out.cell (World.block_lt_of_cell? w _ hx103_1)).trans hx103_1
       replace p103 := eq_true p103
       replace q103 := eq_true q103
       go_wp2_with (first | (go_at_call 51; (with_reducible refine (dip_Check_1.calls ((rd_T39 l0 x8_1).f0) ((rd_T39 l0 x8_1).f1) true _ A6.out).mono ?_); rintro e w8 ⟨rfl, hb⟩; have n0_ := Aside0.mk (below_step (by repeat (first | (with_reducible first | exact HB.out | apply below_alloc | apply pw_below_drewN | apply below_drew1) | exact HB.out)) hb); clear HB; have HB := n0_; clear n0_; (try clear hb); (try clear hb2); (try clear hk); (try clear hi)))
       go_ret
       exact ⟨by first | rfl | (simp [errW_none, errW_some] <;> rfl) | (simp [*, errW_none, errW_some] <;> rfl), by repeat (first | (with_reducible first | exact HB.out | apply below_alloc | apply pw_below_drewN | apply below_drew1) | exact HB.out)⟩
      ·
       replace c7 := Bool.eq_false_iff.mpr c7
       subst c7
       have H1 : (api_Mark_38_at_51.l0 k1 l0 (l0.length : Int) (wrap64 (x8_1 + 1))) = some r := by rw [if_neg (show ¬ (false = true) by decide)] at H; exact H
       clear H
       have H := H1
       clear H1
       have H' := Aside0.mk H
       clear H
       have p103 : 0 ≤ (x8_1 : Int) := of_decide_eq_true (by first | (with_reducible assumption) | assumption)
       have q103 : x8_1 < (l0.length : Int) := of_decide_eq_true (by first | (with_reducible assumption) | assumption)
       obtain ⟨ad103, e103, hx103_0, hx103_1⟩ := at_T39 HR0.out x8_1 p103 q103
       cases e103
       replace hx103_0 := (HB.out.cell (World.block_lt_of_cell? w _ hx103_0)).trans hx103_0
       replace hx103_1 := (HB.out.cell (World.block_lt_of_cell? w _ hx103_1)).trans hx103_1
       replace p103 := eq_true p103
       replace q103 := eq_true q103
       go_wp2_with (first | (go_at_call 51; (with_reducible refine (dip_Check_1.calls ((rd_T39 l0 x8_1).f0) ((rd_T39 l0 x8_1).f1) false _ A6.out).mono ?_); rintro e w9 ⟨rfl, hb⟩; have n0_ := Aside0.mk (below_step (by repeat (first | (with_reducible first | exact HB.out | apply below_alloc | apply pw_below_drewN | apply below_drew1) | exact HB.out)) hb); clear HB; have HB := n0_; clear n0_; (try clear hb); (try clear hb2); (try clear hk); (try clear hi)))
       go_roundg k1
       case measure => have := HK1.out; omega
       case rel => exact ⟨(wrap64 (x8_1 + 1)), (by first | rfl | (simp; done) | (simp [*]; done)), H', ⟨by have := HK1.out; omega⟩, ⟨by repeat (first | (with_reducible first | exact HB.out | apply below_alloc | apply pw_below_drewN | apply below_drew1) | exact HB.out)⟩⟩
     ·
      rw [if_neg c5] at H
      exact absurd H (by simp)
    ·
     rw [if_neg c4] at H
     exact absurd H (by simp)
   ·
    rw [if_neg c3] at H
    have c3b0 : decide (x8_1 < (l0.length : Int)) = false := decide_eq_false c3
    clear c3
    obtain rfl := Option.some.inj H
    go_wp2
    go_ret
    exact ⟨by first | rfl | (simp [errW_none, errW_some] <;> rfl) | (simp [*, errW_none, errW_some] <;> rfl), by repeat (first | (with_reducible first | exact HB.out | apply below_alloc | apply pw_below_drewN | apply below_drew1) | exact HB.out)⟩
def api_Mark_28_at_51.f (k : Nat) (l0 : List (S39))  : Option (Bool) := (api_Mark_38_at_51.f k l0).bind fun t103 => (some (decide (t103 ≥ 0)))
set_option maxHeartbeats 8000000 in
set_option maxRecDepth 100000 in
theorem api_Mark_28_at_51.calls (k : Nat) (A0 : Option Addr) (c0 : Nat) (l0 : List (S39))  (r : Bool) (w : World) (hr0 : Kd.C k39 w A0 l0.length l0) (hc0 : l0.length ≤ c0) (h : api_Mark_28_at_51.f k l0 = some r) :
  Calls Tryd.prog 28 #[.slice A0 l0.length c0, .func (.func 51) #[] #[]] w fun e w' => e = .returned (.bool r) ∧ Below w.heap.size w w' := by
 have HR0 := Aside0.mk hr0
 have HC0 := Aside0.mk hc0
 clear hr0 hc0
 have HB := Aside0.mk (Below.refl w.heap.size w)
 have H : ((api_Mark_38_at_51.f k l0).bind fun t103 => (some (decide (t103 ≥ 0)))) = some r := h
 clear h
 replace H := Option.bind_eq_some_iff.mp H
 obtain ⟨t103, A30, H⟩ := H
 replace H : (some (decide (t103 ≥ 0))) = some r := H
 have A3 := Aside0.mk A30
 clear A30
 obtain rfl := Option.some.inj H
 go_enter Tryd.func28, Tryd.ntmps28
 go_wp2_with (first | ((with_reducible refine gate_callee (f := 38) rfl ?_); refine goesL_ (some 7) rfl rfl Tryd.func38 (by kernel_rfl) rfl #[.slice A0 l0.length c0, .func (.func 51) #[] #[]] rfl (by (try simp only [List.map_toArray, List.map_cons, List.map_nil]); first | done | rfl | (simp only [List.length_drop, List.length_take]; rfl)) ?_; (with_reducible refine (api_Mark_38_at_51.calls k _ _ l0 t103 _ ?side1 ?side2 A3.out).mono ?_); (case side1 => repeat (first | exact HR0.out | (with_reducible refine Kd.C_alloc ?_ _) | (with_reducible refine Kd.C_drewN ?_ _) | (with_reducible refine Kd.C_drew ?_))); (case side2 => exact HC0.out); rintro e w4 ⟨rfl, hb⟩; refine ⟨_, rfl, ?_⟩; have n0_ := Aside0.mk (below_step (by repeat (first | (with_reducible first | exact HB.out | apply below_alloc | apply pw_below_drewN | apply below_drew1) | exact HB.out)) hb); clear HB; have HB := n0_; clear n0_; (try clear hb); (try clear hb2); (try clear hk); (try clear hi)))
 go_ret
 exact ⟨by first | rfl | (simp [errW_none, errW_some] <;> rfl) | (simp [*, errW_none, errW_some] <;> rfl), by repeat (first | (with_reducible first | exact HB.out | apply below_alloc | apply pw_below_drewN | apply below_drew1) | exact HB.out)⟩
end Go.Proofs.YtkolhpacpbhceaaDoor.Pr
