/-
A part of what these laws rest on: contracts of the functions that they reach, and plain lemmas.
-/
import Derived.Test.YtnhmlneebnkjcaaDoorProg
import Derived.ChangeArms
import Derived.DataReads
import Derived.Lib.LaidTab
import Derived.Lib.SmallJoins
import Derived.Carry
import Derived.Test.YtnhmlneebnkjcaaDoorRows
import Derived.Lib.ItoaNum
import Derived.LaidLaws
import Derived.Shelf.Vars
import Derived.Maps.OwnSet
import Derived.Maps.RangeWalk
import Derived.Maps.Views
import Derived.StringKeys
import Derived.Shelf.Strings.Builder1
import Derived.Shelf.Strings.BuilderF
import Derived.Shelf.Strings.BuilderK
import Derived.Shelf.Strconv.Itoa0
import Derived.Shelf.Strconv.Itoa1
import Derived.Shelf.LaysM
import Derived.Shelf.Strconv.Itoa2
import Derived.Shelf.Strconv.Itoa3
import Derived.Shelf.Strings.Search1
import Derived.Shelf.Strings.Search2
import Derived.Shelf.Strings.Search3
import Derived.Shelf.Strings.Cut
import Derived.Shelf.Strings.Count
import Derived.Shelf.Strings.Shaped
import Derived.Shelf.Strings.Split
import Derived.Shelf.Strings.SplitShaped
import Derived.Shelf.Unicode.DecodeSlow
import Derived.Lib.AtoiAll
import Derived.Lib.IndexMore
import Derived.Lib.Split
import Derived.RangeFuncNested
import Derived.RangeFuncBound
import Derived.RangeFuncCalls
import Derived.RangeFuncLeaves
import Derived.RangeFuncBox
import Derived.Shelf.Abstract
import Derived.Shelf.RegionOpen
import Derived.OwnWalkIn
import Derived.TacticsInMore
import Derived.LoopNIn
import Derived.LoopIn
import Derived.Stop.RegionWithIn
import Derived.Test.YtnhmlneebnkjcaaDoorCaskReadsA
set_option linter.unusedVariables false
set_option linter.unusedSimpArgs false
namespace Go.Proofs.YtnhmlneebnkjcaaDoor.Pr
open Go.RowKit Go.Proofs.YtnhmlneebnkjcaaDoorW.PrintWords Go.Proofs.YtnhmlneebnkjcaaDoorW.PrintLast Go.Proofs.YtnhmlneebnkjcaaDoorW.PrintMore
attribute [local go_sem] max2_int min2_int max_two min_two max_three min_three max_four min_four   -- for this text's walks alone
set_option linter.unusedVariables false
set_option linter.unusedSimpArgs false
def errW : Option Int → Value
 | none => .nilIface
 | some c => .iface 0 (.int .i64 c)
theorem errW_none : errW none = .nilIface := rfl
theorem errW_some (c : Int) : errW (some c) = .iface 0 (.int .i64 c) := rfl
theorem info9 : (Tryd.prog.info? 9).map (fun i => (i.zero, i.size, i.bytes)) = some (some (.string ⟨#[]⟩), 1, 16) := by kernel_rfl
theorem info27 : (Tryd.prog.info? 27).map (fun i => (i.zero, i.size, i.bytes)) = some (some (.agg #[(.string ⟨#[]⟩), (.int .i64 0), (.slice none 0 0), (.int .i64 0)]), 4, 56) := by kernel_rfl
theorem info46 : (Tryd.prog.info? 46).map (fun i => (i.zero, i.size, i.bytes)) = some (some (.agg #[(.int .i64 0), (.int .i64 0)]), 2, 16) := by kernel_rfl
structure S46 where
 f0 : Int
 f1 : Int
def z46 : S46 := ⟨(0 : Int), (0 : Int)⟩
def k46 : Kd S46 := Kd.iso (Kd.pair (Kd.int .i64) (Kd.int .i64)) (fun x : S46 => (x.f0, x.f1))
theorem k46_open {w : World} {x : S46} {cs : List Value} (h : k46.K w x cs) : cs = [.int .i64 x.f0, .int .i64 x.f1] := by
 obtain ⟨_, _, rfl, rfl, rfl⟩ := h
 exact rfl
theorem k46_mkM (w : World) (base : Nat) (ok : Nat → Prop) (x : S46)  : k46.M w base ok x [.int .i64 x.f0, .int .i64 x.f1] := ⟨[.int .i64 x.f0], [.int .i64 x.f1], rfl, rfl, rfl⟩
def rd_T46 (xs : List S46) (i : Int) : S46 := xs.getD i.toNat z46
theorem at_T46 {w : World} {A : Option Addr} {n : Nat} {xs : List S46} (h : Kd.C k46 w A n xs) (i : Int) (h0 : 0 ≤ i) (h1 : i < n) : ∃ ad , A = some ad ∧ w.cell? (ad.add (i.toNat * 2)) = some (.int .i64 (rd_T46 xs i).f0) ∧ w.cell? ⟨(ad.add (i.toNat * 2)).block, (ad.add (i.toNat * 2)).off + 1, none⟩ = some (.int .i64 (rd_T46 xs i).f1) := by
 obtain ⟨ad, c, e, _, hK, hc0⟩ := Kd.C_get h z46 i h0 h1
 have hc : ∀ j u, c[j]? = some u → w.cell? (ad.add (i.toNat * 2 + j)) = some u := hc0
 obtain rfl := k46_open hK
 exact ⟨ad, e, hc 0 _ rfl, by rw [← add_field _ _ 1 (by omega)]; exact hc 1 _ rfl⟩
structure S27 where
 f0 : ByteArray
 f1 : Int
 f2 : (List S46)
 f3 : Int
def z27 : S27 := ⟨(⟨#[]⟩ : ByteArray), (0 : Int), ([] : List S46), (0 : Int)⟩
def k27 : Kd S27 := Kd.iso (Kd.pair Kd.string (Kd.pair (Kd.int .i64) (Kd.pair (Kd.slice 46 k46) (Kd.int .i64)))) (fun x : S27 => (x.f0, x.f1, x.f2, x.f3))
theorem k27_open {w : World} {x : S27} {cs : List Value} (h : k27.K w x cs) : ∃ A2 c2, cs = [.string x.f0, .int .i64 x.f1, .slice A2 x.f2.length c2, .int .i64 x.f3] ∧ x.f2.length ≤ c2 ∧ k46.C w A2 x.f2.length x.f2 := by
 obtain ⟨_, _, rfl, rfl, ⟨_, _, rfl, rfl, ⟨_, _, rfl, ⟨A2, c2, rfl, l2, g2⟩, rfl⟩⟩⟩ := h
 exact ⟨A2, c2, rfl, l2, g2⟩
theorem k27_openM {w : World} {base : Nat} {ok : Nat → Prop} {x : S27} {cs : List Value} (h : k27.M w base ok x cs) : ∃ v2, cs = [.string x.f0, .int .i64 x.f1, v2, .int .i64 x.f3] ∧ k46.R 46 w base ok v2 x.f2 := by
 obtain ⟨_, _, rfl, rfl, ⟨_, _, rfl, rfl, ⟨_, _, rfl, ⟨v2, rfl, g2⟩, rfl⟩⟩⟩ := h
 exact ⟨v2, rfl, g2⟩
theorem k27_mk (w : World) (x : S27) {A2 : Option Addr} {c2 : Nat} (l2 : x.f2.length ≤ c2) (g2 : k46.C w A2 x.f2.length x.f2) : k27.K w x [.string x.f0, .int .i64 x.f1, .slice A2 x.f2.length c2, .int .i64 x.f3] := ⟨[.string x.f0], [.int .i64 x.f1, .slice A2 x.f2.length c2, .int .i64 x.f3], rfl, rfl, ⟨[.int .i64 x.f1], [.slice A2 x.f2.length c2, .int .i64 x.f3], rfl, rfl, ⟨[.slice A2 x.f2.length c2], [.int .i64 x.f3], rfl, ⟨A2, c2, rfl, l2, g2⟩, rfl⟩⟩⟩
theorem k27_mkM (w : World) (base : Nat) (ok : Nat → Prop) (x : S27) {v2 : Value} (g2 : k46.R 46 w base ok v2 x.f2) : k27.M w base ok x [.string x.f0, .int .i64 x.f1, v2, .int .i64 x.f3] := ⟨[.string x.f0], [.int .i64 x.f1, v2, .int .i64 x.f3], rfl, rfl, ⟨[.int .i64 x.f1], [v2, .int .i64 x.f3], rfl, rfl, ⟨[v2], [.int .i64 x.f3], rfl, ⟨v2, rfl, g2⟩, rfl⟩⟩⟩
theorem k27_mkF (W : World) (ok : Nat → Prop) (x : S27) {A2 : Option Addr} {c2 : Nat} (l2 : x.f2.length ≤ c2) (g2 : Kd.F k46 W ok A2 x.f2.length x.f2) : Kd.FK k27 W ok x [.string x.f0, .int .i64 x.f1, .slice A2 x.f2.length c2, .int .i64 x.f3] := fun W2 hW => k27_mk W2 x l2 (g2 W2 hW)
def rd_T27 (xs : List S27) (i : Int) : S27 := xs.getD i.toNat z27
theorem at_T27 {w : World} {A : Option Addr} {n : Nat} {xs : List S27} (h : Kd.C k27 w A n xs) (i : Int) (h0 : 0 ≤ i) (h1 : i < n) : ∃ ad A2 c2, A = some ad ∧ w.cell? (ad.add (i.toNat * 4)) = some (.string (rd_T27 xs i).f0) ∧ w.cell? ⟨(ad.add (i.toNat * 4)).block, (ad.add (i.toNat * 4)).off + 1, none⟩ = some (.int .i64 (rd_T27 xs i).f1) ∧ w.cell? ⟨(ad.add (i.toNat * 4)).block, (ad.add (i.toNat * 4)).off + 2, none⟩ = some (.slice A2 (rd_T27 xs i).f2.length c2) ∧ w.cell? ⟨(ad.add (i.toNat * 4)).block, (ad.add (i.toNat * 4)).off + 3, none⟩ = some (.int .i64 (rd_T27 xs i).f3) ∧ (rd_T27 xs i).f2.length ≤ c2 ∧ k46.C w A2 (rd_T27 xs i).f2.length (rd_T27 xs i).f2 := by
 obtain ⟨ad, c, e, _, hK, hc0⟩ := Kd.C_get h z27 i h0 h1
 have hc : ∀ j u, c[j]? = some u → w.cell? (ad.add (i.toNat * 4 + j)) = some u := hc0
 obtain ⟨A2, c2, rfl, l2, g2⟩ := k27_open hK
 exact ⟨ad, A2, c2, e, hc 0 _ rfl, by rw [← add_field _ _ 1 (by omega)]; exact hc 1 _ rfl, by rw [← add_field _ _ 2 (by omega)]; exact hc 2 _ rfl, by rw [← add_field _ _ 3 (by omega)]; exact hc 3 _ rfl, l2, g2⟩
end Go.Proofs.YtnhmlneebnkjcaaDoor.Pr
namespace Go.Proofs.YtnhmlneebnkjcaaDoor.O
open Go Go.RowKit Go.Proofs.YtnhmlneebnkjcaaDoorW.PrintWords
/-- One of the listed variables. -/
theorem laidVars_mem {P : Program} {w : World} {name : String} {d : DataW Unit} : ∀ (l : List (String × DataW Unit)) (ps : List MemPlace), DataW.LaidVars P w l ps → (name, d) ∈ l →
    ∃ g t cs fuel p, P.globalNamed name = some g ∧ (P.globals[g]?).map (·.type) = some t ∧ w.var? P name = some cs ∧ DataW.trod (fun _ => ()) P w 0 (fun _ => true) false fuel t cs.toList = some (d, p)
  | [], _, _, hm => absurd hm (by simp)
  | (n, e) :: r, ps, h, hm => by
    obtain ⟨g, t, cs, fuel, p, q, hg, ht, hv, hd, hr, _⟩ := h
    rcases List.mem_cons.1 hm with hx | hx
    · injection hx with h1 h2
      subst h1
      subst h2
      exact ⟨g, t, cs, fuel, p, hg, ht, hv, hd⟩
    · exact laidVars_mem r q hr hx
theorem tab_of_laid {P : Program} {W : World} {name : String} {k : IntKind} {zs : List Int} {laid : List (String × DataW Unit)} {g : Nat} {t e : TypeId} {n : Nat}
    (hg : P.globalNamed name = some g) (hty : (P.globals[g]?).map (·.type) = some t) (ht : P.underlying t = some (.array n e)) (he : P.underlying e = some (.int k)) (hce : P.cellsOf e = 1) (hct : P.cellsOf t = n)
    (h : laidMet P laid W) (hm : (name, Lib.tabData k zs) ∈ laid) : Lib.TabIs P W name k zs := by
  obtain ⟨ps, hl, _⟩ := h
  obtain ⟨g', t', cs, fuel, p, hg', ht', hvar, hd⟩ := laidVars_mem laid ps hl hm
  obtain rfl := Option.some.inj (hg.symm.trans hg')
  obtain rfl := Option.some.inj (hty.symm.trans ht')
  unfold Lib.TabIs
  rw [hvar, ← Lib.cells_of_tab ht he hce hct hd]
end Go.Proofs.YtnhmlneebnkjcaaDoor.O
namespace Go.Proofs.YtnhmlneebnkjcaaDoor.X
open Go Go.RowKit
/-- What a variable holds stays where all that lay stays. -/
theorem var_below {P : Program} {w w' : World} {name : String} {cs : Array Value} (h : w.var? P name = some cs) (hb : Below w.heap.size w w') : w'.var? P name = some cs := by
  unfold World.var? at *
  cases hg : P.globalNamed name with
  | none => simp [hg] at h
  | some g =>
    simp only [hg, Option.bind_some] at h ⊢
    have hlt : g < w.heap.size := by
      rcases Nat.lt_or_ge g w.heap.size with h' | h'
      · exact h'
      · rw [Array.getElem?_eq_none h'] at h; simp at h
    rw [hb.block g hlt]
    exact h
/-- The table of the powers of ten, and some number where internal/bytealg.MaxLen lies. -/
def GI (w : World) : Prop := Lib.TabIs Tryd.prog w "internal/strconv.uint64pow10" .u64 Lib.pow10Tab ∧ True ∧ True ∧ ∃ m, w.cell? ⟨0, 0, none⟩ = some (.int .i64 m)
theorem GI.below {w w' : World} (h : GI w) (hb : Below w.heap.size w w') : GI w' := by
  obtain ⟨h1, _, _, m, h4⟩ := h
  exact ⟨var_below h1 hb, trivial, trivial, m, (hb.cell (World.block_lt_of_cell? w _ h4)).trans h4⟩
theorem GI.drewN {w : World} (h : GI w) (n : Nat) : GI (w.drewN n) := h
theorem GI.drew {w : World} (h : GI w) : GI w.drew := h
theorem GI.max {w : World} (h : GI w) : ∃ m, w.cell? ⟨0, 0, none⟩ = some (.int .i64 m) := h.2.2.2
theorem GI.of_laid {W : World} (laid : List (String × DataW Unit)) (hm1 : ("internal/strconv.uint64pow10", Rows.laid_internal_strconv_uint64pow10) ∈ laid)
    (h : laidMetH Tryd.prog laid W) (hsh : W.ShapedOpen Tryd.prog) (hp : (laid.filter fun x => x.2.handleName?.isSome) = [] := by kernel_rfl) : GI W := by
  unfold laidMetH at h
  rw [hp] at h
  refine ⟨O.tab_of_laid (g := 1) (t := 122) (e := 110) (n := 20) (by kernel_rfl) (by kernel_rfl) Tryd.underlying122 Tryd.underlying110 (by kernel_rfl) (by kernel_rfl) h hm1, trivial, trivial, ?_⟩
  exact cell_of_shapedOpen_int (t := 3) (zero := #[.int .i64 0]) hsh (of_decide_eq_true (by kernel_rfl)) (by kernel_rfl) rfl (by kernel_rfl) (by kernel_rfl) Tryd.underlying3
end Go.Proofs.YtnhmlneebnkjcaaDoor.X
namespace Go.Proofs.YtnhmlneebnkjcaaDoor.X
open Go Go.RowKit Go.Proofs.YtnhmlneebnkjcaaDoorW.PrintLast
theorem goesV_ {P : Program} {ops : Array Oper} {Q : Exit → Act → World → Prop} {oi : Oper} {N : Option Tmp} {a : Act} {w : World} {K : Act → World → Prop} {f : FuncId} {fn : Func} {ags : Array Operand} {ts : Array TypeId} {o : Operand}
    (hf : P.funcs[f]? = some fn) (hname : (fn.name == "runtime.NumGoroutine") = false) (hb : fn.body.isSome = true) (args : Array Value)
    (hw : Region.wanted oi (yielded ops a.tmps) = true) (hN : oi.dst = N) (hop : oi.op = .call { callee := .value o, args := ags, argTypes := ts }) (hargs : ags.map a.eval = args) (hv : a.eval o = .func (.func f) #[] #[])
    (h : Calls P f args w fun e w' => ∃ v, e = .returned v ∧ K (a.put N v) w') : if Region.wanted oi (yielded ops a.tmps) = true then Oper.wp P oi a w K Q else K (a.put N undef) w := by
  refine call_ f args hw hN ?_ h
  have he := enters_ hf hname hb args w
  unfold execOp
  simp [hop, resolve, Deferred.ofValue, invoke, hv, hargs, he]
end Go.Proofs.YtnhmlneebnkjcaaDoor.X
namespace Go.Proofs.YtnhmlneebnkjcaaDoor.X
open Go Go.Maps Go.WideMaps
section
variable {α : Type} (enc : α → DataW Unit)
/-- The datum of some entries, stored one after the other. -/
def mputAll : DataW Unit → List (List UInt8 × α) → DataW Unit
  | D, [] => D
  | D, x :: r => mputAll (D.put (.string x.1) (enc x.2)) r
/-- What stands at a key in the end. -/
def lastAt : Option α → List (List UInt8 × α) → List UInt8 → Option α
  | o, [], _ => o
  | o, x :: r, s => lastAt (if x.1 = s then some x.2 else o) r s
theorem put_at {D : DataW Unit} (hD : IsMap D) (k s : List UInt8) (x : α) (o : Option α) (z : DataW Unit) (h : D.atKey (.string s) z = match o with | none => z | some y => enc y) :
    (D.put (.string k) (enc x)).atKey (.string s) z = match (if k = s then some x else o) with | none => z | some y => enc y := by
  by_cases c : k = s
  · subst c
    rw [if_pos rfl]
    exact atKey_put_same hD (show WideAt.IsKeyLit (.string k) from trivial) _ _
  · rw [if_neg c, atKey_put_other (fun e => c (by injection e with e; exact e.symm))]
    exact h
theorem put_has {D : DataW Unit} (hD : IsMap D) (k s : List UInt8) (x : α) (o : Option α) (h : Maps.has D (.string s) = o.isSome) :
    Maps.has (D.put (.string k) (enc x)) (.string s) = (if k = s then some x else o).isSome := by
  by_cases c : k = s
  · subst c
    rw [if_pos rfl]
    exact has_put_same hD (show WideAt.IsKeyLit (.string k) from trivial) _
  · rw [if_neg c, has_put_other (fun e => c (by injection e with e; exact e.symm))]
    exact h
theorem mputAll_at : ∀ (l : List (List UInt8 × α)) (D : DataW Unit) (o : Option α) (s : List UInt8) (z : DataW Unit), IsMap D → (D.atKey (.string s) z = match o with | none => z | some y => enc y) →
    (mputAll enc D l).atKey (.string s) z = match lastAt o l s with | none => z | some y => enc y
  | [], _, _, _, _, _, h => h
  | x :: r, D, o, s, z, hD, h => mputAll_at r _ _ s z (hD.put _ _) (put_at enc hD x.1 s x.2 o z h)
theorem mputAll_has : ∀ (l : List (List UInt8 × α)) (D : DataW Unit) (o : Option α) (s : List UInt8), IsMap D → Maps.has D (.string s) = o.isSome → Maps.has (mputAll enc D l) (.string s) = (lastAt o l s).isSome
  | [], _, _, _, _, h => h
  | x :: r, D, o, s, hD, h => mputAll_has r _ _ s (hD.put _ _) (put_has enc hD x.1 s x.2 o h)
def litMap (l : List (List UInt8 × α)) : DataW Unit := mputAll enc (.map []) l
theorem litMap_at (l : List (List UInt8 × α)) (s : List UInt8) (z : DataW Unit) : (litMap enc l).atKey (.string s) z = match lastAt none l s with | none => z | some y => enc y :=
  mputAll_at enc l _ none s z isMap_empty rfl
theorem litMap_has (l : List (List UInt8 × α)) (s : List UInt8) : Maps.has (litMap enc l) (.string s) = (lastAt none l s).isSome :=
  mputAll_has enc l _ none s isMap_empty rfl
end
/-- A bool element. -/
def boolE (v : Value) : Option (DataW Unit × List MemPlace) := match v with
  | .bool b => some (.lit (.bool b), [])
  | _ => none
theorem boolE_inv {v : Value} {y : DataW Unit × List MemPlace} (h : boolE v = some y) : ∃ b : Bool, v = .bool b := by
  unfold boolE at h
  split at h
  · exact ⟨_, rfl⟩
  · cases h
theorem boolE_enc {v : Value} {b : Bool} {ps : List MemPlace} (h : boolE v = some (.lit (.bool b), ps)) : v = .bool b := by
  obtain ⟨c, rfl⟩ := boolE_inv h
  have e := Option.some.inj h
  have e1 := congrArg Prod.fst e
  simp only [DataW.lit.injEq, Lit.bool.injEq] at e1
  rw [e1]
section
variable {P : Program} (w : World) {ops : Array Oper} {rest : List Oper} {o : Oper} {a : Act} {Q : Exit → Act → World → Prop}
/-- 'm[s] = v' into such a map. -/
theorem mputAll_snoc {α : Type} (enc : α → DataW Unit) : ∀ (l : List (List UInt8 × α)) (D : DataW Unit) (x : List UInt8 × α), mputAll enc D (l ++ [x]) = (mputAll enc D l).put (.string x.1) (enc x.2)
  | [], _, _ => rfl
  | y :: r, D, x => mputAll_snoc enc r _ x
end
end Go.Proofs.YtnhmlneebnkjcaaDoor.X
namespace Go.Proofs.YtnhmlneebnkjcaaDoor.X
open Go Go.Maps Go.WideMaps
/-- An int element. -/
def intE (v : Value) : Option (DataW Unit × List MemPlace) := match v with
  | .int .i64 n => some (.lit (.int .i64 n), [])
  | _ => none
def encI (n : Int) : DataW Unit := .lit (.int .i64 n)
theorem intE_inv {v : Value} {y : DataW Unit × List MemPlace} (h : intE v = some y) : ∃ n : Int, v = .int .i64 n := by
  unfold intE at h
  split at h
  · exact ⟨_, rfl⟩
  · cases h
theorem intE_enc {v : Value} {n : Int} {ps : List MemPlace} (h : intE v = some (encI n, ps)) : v = .int .i64 n := by
  obtain ⟨c, rfl⟩ := intE_inv h
  have e := Option.some.inj h
  have e1 := congrArg Prod.fst e
  simp only [encI, DataW.lit.injEq, Lit.int.injEq, true_and] at e1
  rw [e1]
section
variable {P : Program} (w : World) {ops : Array Oper} {rest : List Oper} {o : Oper} {a : Act} {Q : Exit → Act → World → Prop}
/-- 'v, ok := m[s]' in such a map: what it comes to. -/
theorem look_int_ok {w : World} {t k e : TypeId} (ht : P.underlying t = some (.map k e)) (hk : P.underlying k = some .string) (hz : (zeroValue e).run P w = .ok (.int .i64 0) w) {b n : Nat} {l : List (List UInt8 × Int)}
    (hown : w.ownsMap P k intE b n (litMap encI l)) (s : ByteArray) (hs : s.size ≤ maxLen) :
    (Instr.lookup t (.map (some b)) (.string s) true).run P w = .ok (.tuple #[.int .i64 ((lastAt none l s.data.toList).getD 0), .bool (lastAt none l s.data.toList).isSome]) w := by
  obtain ⟨v, ps, hrun, hv⟩ := hown.look_ok (string_keyed hk) ht hz (show intE (.int .i64 0) = some (encI 0, []) from rfl) (keyOf_string_mk hk hs)
  have hv' : v = .int .i64 ((lastAt none l s.data.toList).getD 0) := by
    have e1 := litMap_at encI l s.data.toList (encI 0)
    cases hl : lastAt none l s.data.toList with
    | none =>
      rw [hl] at e1
      have e1 : (litMap encI l).atKey (.string s.data.toList) (encI 0) = encI 0 := e1
      exact intE_enc (hv.trans (congrArg (fun d => some (d, ps)) e1))
    | some p =>
      rw [hl] at e1
      have e1 : (litMap encI l).atKey (.string s.data.toList) (encI 0) = encI p := e1
      exact intE_enc (hv.trans (congrArg (fun d => some (d, ps)) e1))
  rw [hrun, hv', litMap_has]
/-- An entry of a map's literal. -/
theorem wpList_insert_int (hg : o.guard = none) (m x v : Operand) (t : TypeId) (hop : o.op = Op.insert t m x v) (k e : TypeId) (ht : P.underlying t = some (.map k e)) (hk : P.underlying k = some .string) (b n : Nat) (l : List (List UInt8 × Int))
    (hm : a.eval m = .map (some b)) (hown : w.ownsMap P k intE b n (litMap encI l)) (hn : n < maxLen) (s : ByteArray) (hs : s.size ≤ maxLen) (p : Int) (hx : a.eval x = .string s) (hv : a.eval v = .int .i64 p)
    (hK : ∀ w', w'.ownsMap P k intE b (n + 1) (litMap encI (l ++ [(s.data.toList, p)])) → w.grownBy w' (some b) → wpList P ops Q rest (a.put o.dst undef) w') :
    wpList P ops Q (o :: rest) a w := by
  refine wpList_plain hg fun K' hK' => ?_
  obtain ⟨w', hrun, r1, r2⟩ := hown.update (string_keyed hk) ht hn (keyOf_string_mk hk hs) (show intE (.int .i64 p) = some (encI p, []) from rfl)
  unfold Oper.wp
  simp [execOp, hop, hm, hx, hv, hrun, Result.andThen]
  exact hK' _ _ (hK w' (by rw [litMap, mputAll_snoc]; exact r1) r2)
end
end Go.Proofs.YtnhmlneebnkjcaaDoor.X
namespace Go.Proofs
open Go.Shelf
def Tryd.lays169_ren : Go.Shelf.Ren := ⟨fun | 169 => 44 | n => n, fun | 70 => 59 | 9 => 9 | 0 => 0 | 72 => 62 | 37 => 60 | 127 => 95 | 3 => 3 | 5 => 5 | n => n, fun | n => n⟩
theorem Tryd.lays169 : Go.Proofs.Lays.n169 Tryd.prog Tryd.lays169_ren := {
  mixed := by kernel_rfl
  f169 := Tryd.func44.trans (congrArg some (by kernel_rfl))
  t0 := Tryd.underlying0
  a0 := Tryd.isAgg0
  z0 := Tryd.sizeOf0
  v0 := Tryd.zeroValue0
  t3 := Tryd.underlying3
  a3 := Tryd.isAgg3
  z3 := Tryd.sizeOf3
  v3 := Tryd.zeroValue3
  t9 := Tryd.underlying9
  a9 := Tryd.isAgg9
  z9 := Tryd.sizeOf9
  v9 := Tryd.zeroValue9
  t37 := Tryd.underlying60
  a37 := Tryd.isAgg60
  z37 := Tryd.sizeOf60
  v37 := Tryd.zeroValue60
  t70 := Tryd.underlying59
  a70 := Tryd.isAgg59
  z70 := Tryd.sizeOf59
  v70 := Tryd.zeroValue59
  t72 := Tryd.underlying62
  a72 := Tryd.isAgg62
  z72 := Tryd.sizeOf62
  v72 := Tryd.zeroValue62
  t127 := Tryd.underlying95
  a127 := Tryd.isAgg95
  z127 := Tryd.sizeOf95
  v127 := Tryd.zeroValue95 }
theorem Tryd.Builder_Extra_169 : Builder.Extra Tryd.prog Tryd.lays169_ren := {
  sizeBuilder := by kernel_rfl
  liesBuilder := by kernel_rfl
  t5 := Tryd.underlying5
  a5 := Tryd.isAgg5
  z5 := Tryd.sizeOf5
  v5 := Tryd.zeroValue5
  infoByte := by kernel_rfl
  cellsByte := by kernel_rfl
  sizeByte := by kernel_rfl
  neB5 := by decide }
open Go.RowKit in
/-- (*strings.Builder).String: "String returns the accumulated string.": WHATEVER THE BUILDER HOLDS; THE FORM '_k': OVER 'Lib.IsBuilderF' (a builder that 'String()' may have read), AND WITH THE FRAME THAT REACHES ABOVE THE BUILDER: 'Lib.OthersKept': every block that is not b and is no row of uint8's stands as it stood: the iterator of a range among them. (LAID: no walk: one application.) -/
theorem Tryd.Builder_String_any_k (B b : Nat) (l : List UInt8) (w : World) (h : Lib.IsBuilderF 62 5 B b (Lib.byteCells l) w) (hBw : B ≤ w.heap.size) :
    Calls Tryd.prog 44 #[.pointer (some ⟨b, 0, none⟩)] w fun e w' => e = .returned (.string ⟨l.toArray⟩) ∧ (Lib.IsBuilderF 62 5 B b (Lib.byteCells l) w' ∧ Below B w w' ∧ Lib.OthersKept 5 (some b) w w') := Any.Builder_String_any_k Tryd.lays169 Tryd.Builder_Extra_169 B b l w h hBw
def Tryd.laysM171_ren : Go.Shelf.Ren := ⟨fun | 171 => 43 | 243 => 62 | 246 => 73 | 283 => 79 | 284 => 80 | 285 => 81 | 286 => 82 | 129 => 91 | 317 => 90 | 318 => 92 | 319 => 93 | 320 => 94 | 337 => 98 | 338 => 99 | n => n, fun | 3 => 3 | 9 => 9 | 2 => 2 | 4 => 4 | 171 => 109 | 0 => 0 | 53 => 110 | 37 => 60 | 5 => 5 | 173 => 113 | 212 => 122 | 51 => 123 | 20 => 20 | 213 => 124 | 46 => 117 | 232 => 133 | 233 => 134 | n => n, fun | 17 => 1 | 18 => 4 | 19 => 5 | n => n⟩
theorem Tryd.laysM171 : Go.Proofs.LaysM.n171 Tryd.prog Tryd.laysM171_ren := {
  mixed := by kernel_rfl
  f129 := Tryd.func91.trans (congrArg some (by kernel_rfl))
  f171 := Tryd.func43.trans (congrArg some (by kernel_rfl))
  f243 := Tryd.func62.trans (congrArg some (by kernel_rfl))
  f246 := Tryd.func73.trans (congrArg some (by kernel_rfl))
  f283 := Tryd.func79.trans (congrArg some (by kernel_rfl))
  f284 := Tryd.func80.trans (congrArg some (by kernel_rfl))
  f285 := Tryd.func81.trans (congrArg some (by kernel_rfl))
  f286 := Tryd.func82.trans (congrArg some (by kernel_rfl))
  f317 := Tryd.func90.trans (congrArg some (by kernel_rfl))
  f318 := Tryd.func92.trans (congrArg some (by kernel_rfl))
  f319 := Tryd.func93.trans (congrArg some (by kernel_rfl))
  f320 := Tryd.func94.trans (congrArg some (by kernel_rfl))
  f337 := Tryd.func98.trans (congrArg some (by kernel_rfl))
  f338 := Tryd.func99.trans (congrArg some (by kernel_rfl))
  t0 := Tryd.underlying0
  a0 := Tryd.isAgg0
  z0 := Tryd.sizeOf0
  v0 := Tryd.zeroValue0
  t2 := Tryd.underlying2
  a2 := Tryd.isAgg2
  z2 := Tryd.sizeOf2
  v2 := Tryd.zeroValue2
  t3 := Tryd.underlying3
  a3 := Tryd.isAgg3
  z3 := Tryd.sizeOf3
  v3 := Tryd.zeroValue3
  t4 := Tryd.underlying4
  a4 := Tryd.isAgg4
  z4 := Tryd.sizeOf4
  v4 := Tryd.zeroValue4
  t5 := Tryd.underlying5
  a5 := Tryd.isAgg5
  z5 := Tryd.sizeOf5
  v5 := Tryd.zeroValue5
  t9 := Tryd.underlying9
  a9 := Tryd.isAgg9
  z9 := Tryd.sizeOf9
  v9 := Tryd.zeroValue9
  t20 := Tryd.underlying20
  a20 := Tryd.isAgg20
  z20 := Tryd.sizeOf20
  v20 := Tryd.zeroValue20
  t37 := Tryd.underlying60
  a37 := Tryd.isAgg60
  z37 := Tryd.sizeOf60
  v37 := Tryd.zeroValue60
  t46 := Tryd.underlying117
  a46 := Tryd.isAgg117
  z46 := Tryd.sizeOf117
  v46 := Tryd.zeroValue117
  t51 := Tryd.underlying123
  a51 := Tryd.isAgg123
  z51 := Tryd.sizeOf123
  v51 := Tryd.zeroValue123
  t53 := Tryd.underlying110
  a53 := Tryd.isAgg110
  z53 := Tryd.sizeOf110
  v53 := Tryd.zeroValue110
  t171 := Tryd.underlying109
  a171 := Tryd.isAgg109
  z171 := Tryd.sizeOf109
  v171 := Tryd.zeroValue109
  t173 := Tryd.underlying113
  a173 := Tryd.isAgg113
  z173 := Tryd.sizeOf113
  v173 := Tryd.zeroValue113
  t212 := Tryd.underlying122
  a212 := Tryd.isAgg122
  z212 := Tryd.sizeOf122
  v212 := Tryd.zeroValue122
  t213 := Tryd.underlying124
  a213 := Tryd.isAgg124
  z213 := Tryd.sizeOf124
  t232 := Tryd.underlying133
  a232 := Tryd.isAgg133
  z232 := Tryd.sizeOf133
  v232 := Tryd.zeroValue133
  t233 := Tryd.underlying134
  a233 := Tryd.isAgg134
  z233 := Tryd.sizeOf134
  v233 := Tryd.zeroValue134
  g17 := by kernel_rfl
  g18 := by kernel_rfl
  g19 := by kernel_rfl
  i0 := by kernel_rfl
  i2 := by kernel_rfl
  i3 := by kernel_rfl
  i4 := by kernel_rfl
  i5 := by kernel_rfl
  i9 := by kernel_rfl
  i20 := by kernel_rfl
  i37 := by kernel_rfl
  i46 := by kernel_rfl
  i51 := by kernel_rfl
  i53 := by kernel_rfl
  i171 := by kernel_rfl
  i173 := by kernel_rfl
  i212 := by kernel_rfl
  i232 := by kernel_rfl
  i233 := by kernel_rfl
  m17 := by kernel_rfl
  m18 := by kernel_rfl
  m19 := by kernel_rfl }
open Go.RowKit Go.Sort Go.Lib in
/-- strconv.Itoa: "Itoa is equivalent to FormatInt(int64(i), 10).": i's DECIMAL NUMERAL ('Lib.itoa': a '-' where i is negative, then the digits), FOR EVERY int. The world behind the call: the world before it, new blocks behind the heap (the library's 'var a [24]byte'), draws. (LAID: no walk: one application.) -/
theorem Tryd.strconv_Itoa (n : Int) (h0 : -9223372036854775808 ≤ n) (h1 : n ≤ 9223372036854775807) (w : World) (htab : Lib.TabIs Tryd.prog w "internal/strconv.uint64pow10" .u64 Lib.pow10Tab) :
    Calls Tryd.prog 43 #[.int .i64 n] w fun e w' => e = .returned (.string ⟨(Lib.itoa n).toArray⟩) ∧ ∃ k os, w' = grow (w.drewN k) os := Any.strconv_Itoa Tryd.laysM171 n h0 h1 w htab
def Tryd.lays145_ren : Go.Shelf.Ren := ⟨fun | 145 => 47 | 220 => 67 | 219 => 75 | 217 => 83 | 225 => 84 | 224 => 85 | 267 => 86 | 266 => 95 | 314 => 96 | n => n, fun | 9 => 9 | 4 => 4 | 59 => 74 | 3 => 3 | 5 => 5 | 46 => 117 | 146 => 126 | 51 => 123 | n => n, fun | 1 => 0 | n => n⟩
theorem Tryd.lays145 : Go.Proofs.Lays.n145 Tryd.prog Tryd.lays145_ren := {
  mixed := by kernel_rfl
  f145 := Tryd.func47.trans (congrArg some (by kernel_rfl))
  f217 := Tryd.func83.trans (congrArg some (by kernel_rfl))
  f219 := Tryd.func75.trans (congrArg some (by kernel_rfl))
  f220 := Tryd.func67.trans (congrArg some (by kernel_rfl))
  f224 := Tryd.func85.trans (congrArg some (by kernel_rfl))
  f225 := Tryd.func84.trans (congrArg some (by kernel_rfl))
  f266 := Tryd.func95.trans (congrArg some (by kernel_rfl))
  f267 := Tryd.func86.trans (congrArg some (by kernel_rfl))
  f314 := Tryd.func96.trans (congrArg some (by kernel_rfl))
  t3 := Tryd.underlying3
  a3 := Tryd.isAgg3
  z3 := Tryd.sizeOf3
  v3 := Tryd.zeroValue3
  t4 := Tryd.underlying4
  a4 := Tryd.isAgg4
  z4 := Tryd.sizeOf4
  v4 := Tryd.zeroValue4
  t5 := Tryd.underlying5
  a5 := Tryd.isAgg5
  z5 := Tryd.sizeOf5
  v5 := Tryd.zeroValue5
  t9 := Tryd.underlying9
  a9 := Tryd.isAgg9
  z9 := Tryd.sizeOf9
  v9 := Tryd.zeroValue9
  t46 := Tryd.underlying117
  a46 := Tryd.isAgg117
  z46 := Tryd.sizeOf117
  v46 := Tryd.zeroValue117
  t51 := Tryd.underlying123
  a51 := Tryd.isAgg123
  z51 := Tryd.sizeOf123
  v51 := Tryd.zeroValue123
  t59 := Tryd.underlying74
  a59 := Tryd.isAgg74
  z59 := Tryd.sizeOf74
  v59 := Tryd.zeroValue74
  t146 := Tryd.underlying126
  a146 := Tryd.isAgg126
  z146 := Tryd.sizeOf126
  v146 := Tryd.zeroValue126
  g1 := by kernel_rfl }
open Go.RowKit Go.Lib in
/-- strings.Cut: "Cut slices s around the first instance of sep, returning the text before and after sep. The found result reports whether sep appears in s. If sep does not appear in s, cut returns s, "", false.": IT RETURNS 'Lib.cut s sep'; the world is as it was but for the count of draws. (LAID: no walk: one application.) -/
theorem Tryd.strings_Cut (s sep : ByteArray) (m : Int) (w : World) (hs : s.size < 4294967281) (hm : w.cell? ⟨0, 0, none⟩ = some (.int .i64 m)) :
    Calls Tryd.prog 47 #[.string s, .string sep] w fun e w' => e = .returned (.tuple #[.string ⟨(Lib.cut s.data.toList sep.data.toList).1.toArray⟩, .string ⟨(Lib.cut s.data.toList sep.data.toList).2.1.toArray⟩, .bool (Lib.cut s.data.toList sep.data.toList).2.2]) ∧ ∃ n, w' = w.drewN n := Any.strings_Cut Tryd.lays145 s sep m w hs hm
def Tryd.lays146_ren : Go.Shelf.Ren := ⟨fun | 146 => 48 | 221 => 68 | 268 => 76 | 138 => 77 | 143 => 78 | 195 => 87 | 197 => 88 | 218 => 89 | 219 => 75 | 260 => 97 | 217 => 83 | 225 => 84 | 224 => 85 | 267 => 86 | 266 => 95 | 314 => 96 | n => n, fun | 9 => 9 | 31 => 79 | 3 => 3 | 4 => 4 | 0 => 0 | 105 => 119 | 21 => 21 | 5 => 5 | 46 => 117 | 119 => 129 | 139 => 132 | 138 => 131 | 146 => 126 | 51 => 123 | n => n, fun | 1 => 0 | 3 => 2 | 4 => 3 | n => n⟩
theorem Tryd.lays146 : Go.Proofs.Lays.n146 Tryd.prog Tryd.lays146_ren := {
  mixed := by kernel_rfl
  f138 := Tryd.func77.trans (congrArg some (by kernel_rfl))
  f143 := Tryd.func78.trans (congrArg some (by kernel_rfl))
  f146 := Tryd.func48.trans (congrArg some (by kernel_rfl))
  f195 := Tryd.func87.trans (congrArg some (by kernel_rfl))
  f197 := Tryd.func88.trans (congrArg some (by kernel_rfl))
  f217 := Tryd.func83.trans (congrArg some (by kernel_rfl))
  f218 := Tryd.func89.trans (congrArg some (by kernel_rfl))
  f219 := Tryd.func75.trans (congrArg some (by kernel_rfl))
  f221 := Tryd.func68.trans (congrArg some (by kernel_rfl))
  f224 := Tryd.func85.trans (congrArg some (by kernel_rfl))
  f225 := Tryd.func84.trans (congrArg some (by kernel_rfl))
  f260 := Tryd.func97.trans (congrArg some (by kernel_rfl))
  f266 := Tryd.func95.trans (congrArg some (by kernel_rfl))
  f267 := Tryd.func86.trans (congrArg some (by kernel_rfl))
  f268 := Tryd.func76.trans (congrArg some (by kernel_rfl))
  f314 := Tryd.func96.trans (congrArg some (by kernel_rfl))
  t0 := Tryd.underlying0
  a0 := Tryd.isAgg0
  z0 := Tryd.sizeOf0
  v0 := Tryd.zeroValue0
  t3 := Tryd.underlying3
  a3 := Tryd.isAgg3
  z3 := Tryd.sizeOf3
  v3 := Tryd.zeroValue3
  t4 := Tryd.underlying4
  a4 := Tryd.isAgg4
  z4 := Tryd.sizeOf4
  v4 := Tryd.zeroValue4
  t5 := Tryd.underlying5
  a5 := Tryd.isAgg5
  z5 := Tryd.sizeOf5
  v5 := Tryd.zeroValue5
  t9 := Tryd.underlying9
  a9 := Tryd.isAgg9
  z9 := Tryd.sizeOf9
  v9 := Tryd.zeroValue9
  t21 := Tryd.underlying21
  a21 := Tryd.isAgg21
  z21 := Tryd.sizeOf21
  v21 := Tryd.zeroValue21
  t31 := Tryd.underlying79
  a31 := Tryd.isAgg79
  z31 := Tryd.sizeOf79
  v31 := Tryd.zeroValue79
  t46 := Tryd.underlying117
  a46 := Tryd.isAgg117
  z46 := Tryd.sizeOf117
  v46 := Tryd.zeroValue117
  t51 := Tryd.underlying123
  a51 := Tryd.isAgg123
  z51 := Tryd.sizeOf123
  v51 := Tryd.zeroValue123
  t105 := Tryd.underlying119
  a105 := Tryd.isAgg119
  z105 := Tryd.sizeOf119
  v105 := Tryd.zeroValue119
  t119 := Tryd.underlying129
  a119 := Tryd.isAgg129
  z119 := Tryd.sizeOf129
  t138 := Tryd.underlying131
  a138 := Tryd.isAgg131
  z138 := Tryd.sizeOf131
  v138 := Tryd.zeroValue131
  t139 := Tryd.underlying132
  a139 := Tryd.isAgg132
  z139 := Tryd.sizeOf132
  v139 := Tryd.zeroValue132
  t146 := Tryd.underlying126
  a146 := Tryd.isAgg126
  z146 := Tryd.sizeOf126
  v146 := Tryd.zeroValue126
  g1 := by kernel_rfl
  g3 := by kernel_rfl
  g4 := by kernel_rfl }
open Go.RowKit Go.Lib in
/-- strings.Split. (LAID: no walk: one application.) -/
theorem Tryd.strings_Split (s sep : ByteArray) (m : Int) (w : World) (hs : s.size < 4294967281) (hm : w.cell? ⟨0, 0, none⟩ = some (.int .i64 m)) (h1 : 1 ≤ sep.size) :
    Calls Tryd.prog 48 #[.string s, .string sep] w fun e w' =>
      e = .returned (.slice (some ⟨w.heap.size, 0, none⟩) (Lib.countB s sep + 1) (Lib.countB s sep + 1)) ∧ w' = w.alloc (.cells ((Lib.splitB sep 0 (Lib.countB s sep) s).map Value.string).toArray 9) := Any.strings_Split Tryd.lays146 (by kernel_rfl) s sep m w hs hm h1
end Go.Proofs
namespace Go.Proofs.YtnhmlneebnkjcaaDoor.X
open Go.RowKit
/-- The decimal numeral of an int. -/
def strconv_Itoa.f (a0 : Int) : Option ByteArray := if -9223372036854775808 ≤ a0 then (if a0 ≤ 9223372036854775807 then some ⟨(Lib.itoa a0).toArray⟩ else none) else none
theorem below_grow (w : World) (q : Nat) (os : Array Obj) : Below w.heap.size w (Sort.grow (w.drewN q) os) :=
  ⟨rfl, rfl, rfl, by show w.heap.size ≤ (w.heap ++ os).size; rw [Array.size_append]; omega, fun i hi => by
    show ((w.drewN q).heap ++ os)[i]? = _
    rw [Array.getElem?_append_left (by show i < w.heap.size; omega)]
    rfl⟩
theorem strconv_Itoa.calls (a0 : Int) (r : ByteArray) (w : World) (hG : GI w) (h : strconv_Itoa.f a0 = some r) :
    Calls Tryd.prog 43 #[.int .i64 a0] w fun e w' => e = .returned (.string r) ∧ Below w.heap.size w w' := by
  unfold strconv_Itoa.f at h
  by_cases h0 : -9223372036854775808 ≤ a0
  · by_cases h1 : a0 ≤ 9223372036854775807
    · rw [if_pos h0, if_pos h1] at h
      obtain rfl := Option.some.inj h
      refine (Tryd.strconv_Itoa a0 h0 h1 w hG.1).mono ?_
      rintro e w' ⟨rfl, k, os, rfl⟩
      exact ⟨rfl, below_grow w k os⟩
    · rw [if_pos h0, if_neg h1] at h
      cases h
  · rw [if_neg h0] at h
    cases h
end Go.Proofs.YtnhmlneebnkjcaaDoor.X
namespace Go.Proofs.YtnhmlneebnkjcaaDoor.TX
open Go Go.Lib
/-- What lies between the bytes c. -/
def parts (c : UInt8) : List UInt8 → List (List UInt8)
  | [] => [[]]
  | b :: r => if b = c then [] :: parts c r else match parts c r with
    | [] => [[b]]
    | p :: q => (b :: p) :: q
/-- The first piece, the rest behind its byte c, and whether there is one. -/
def cut1 (c : UInt8) : List UInt8 → List UInt8 × List UInt8 × Bool
  | [] => ([], [], false)
  | b :: r => if b = c then ([], r, true) else (b :: (cut1 c r).1, (cut1 c r).2.1, (cut1 c r).2.2)
theorem parts_cons (c b : UInt8) (r : List UInt8) : parts c (b :: r) = if b = c then [] :: parts c r else match parts c r with
    | [] => [[b]]
    | p :: q => (b :: p) :: q := rfl
theorem cut1_cons (c b : UInt8) (r : List UInt8) : cut1 c (b :: r) = if b = c then ([], r, true) else (b :: (cut1 c r).1, (cut1 c r).2.1, (cut1 c r).2.2) := rfl
theorem parts_ne (c : UInt8) (s : List UInt8) : parts c s ≠ [] := by
  cases s with
  | nil => simp [parts]
  | cons b r =>
    rw [parts_cons]
    by_cases h : b = c
    · simp [h]
    · rw [if_neg h]; cases parts c r <;> simp
theorem index_nil (c : UInt8) : index [] [c] = -1 := rfl
theorem index_cons (c b : UInt8) (r : List UInt8) : index (b :: r) [c] = if b = c then 0 else if index r [c] = -1 then -1 else index r [c] + 1 := by
  have e0 : index (b :: r) [c] = if [c].isPrefixOf (b :: r) then 0 else if index r [c] == -1 then -1 else index r [c] + 1 := rfl
  rw [e0]
  by_cases h : b = c
  · subst h; simp [List.isPrefixOf]
  · have h2 : (c == b) = false := by simpa using fun e => h e.symm
    rw [if_neg h]
    simp only [List.isPrefixOf, h2, Bool.false_and, Bool.false_eq_true, if_false]
    by_cases h3 : index r [c] = -1
    · simp [h3]
    · rw [if_neg (by simpa using h3), if_neg h3]
theorem cut_eq (c : UInt8) : ∀ s : List UInt8, cut s [c] = cut1 c s
  | [] => by unfold cut; rw [index_nil]; rfl
  | b :: r => by
    have ih := cut_eq c r
    have hg := index_ge r [c]
    unfold cut at ih ⊢
    rw [cut1_cons, index_cons]
    by_cases h : b = c
    · rw [if_pos h, if_pos h]; simp
    · rw [if_neg h, if_neg h, ← ih]
      by_cases h3 : index r [c] = -1
      · rw [if_pos h3]; simp [h3]
      · rw [if_neg h3, if_pos (by omega), if_pos (by omega)]
        have e : (index r [c] + 1).toNat = (index r [c]).toNat + 1 := by omega
        rw [e, show (index r [c]).toNat + 1 + [c].length = ((index r [c]).toNat + [c].length) + 1 from by omega]
        rfl
theorem cut1_len (c : UInt8) : ∀ s : List UInt8, (cut1 c s).2.2 = true → (cut1 c s).2.1.length < s.length
  | [], h => by simp [cut1] at h
  | b :: r, h => by
    rw [cut1_cons] at h ⊢
    by_cases e : b = c
    · rw [if_pos e]; simp
    · rw [if_neg e] at h ⊢
      have := cut1_len c r h
      simp only [List.length_cons]; omega
theorem cut1_sum (c : UInt8) : ∀ s : List UInt8, (cut1 c s).2.2 = true → s = (cut1 c s).1 ++ c :: (cut1 c s).2.1
  | [], h => by simp [cut1] at h
  | b :: r, h => by
    rw [cut1_cons] at h ⊢
    by_cases e : b = c
    · rw [if_pos e]; simp [e]
    · rw [if_neg e] at h ⊢
      have := cut1_sum c r h
      simp only [List.cons_append]
      rw [← this]
theorem cut1_no (c : UInt8) : ∀ s : List UInt8, (cut1 c s).2.2 = false → (cut1 c s).1 = s ∧ (cut1 c s).2.1 = []
  | [], _ => ⟨rfl, rfl⟩
  | b :: r, h => by
    rw [cut1_cons] at h ⊢
    by_cases e : b = c
    · rw [if_pos e] at h; simp at h
    · rw [if_neg e] at h ⊢
      have := cut1_no c r h
      exact ⟨by simp [this.1], this.2⟩
theorem parts_cut (c : UInt8) : ∀ s : List UInt8, parts c s = (cut1 c s).1 :: if (cut1 c s).2.2 = true then parts c (cut1 c s).2.1 else []
  | [] => rfl
  | b :: r => by
    have ih := parts_cut c r
    rw [parts_cons, cut1_cons]
    by_cases e : b = c
    · rw [if_pos e, if_pos e]; simp
    · rw [if_neg e, if_neg e, ih]
/-- The pieces again, with c between. -/
def glue (c : UInt8) : List (List UInt8) → List UInt8
  | [] => []
  | [p] => p
  | p :: q => p ++ c :: glue c q
theorem glue_parts (c : UInt8) : ∀ s : List UInt8, glue c (parts c s) = s
  | [] => rfl
  | b :: r => by
    have ih := glue_parts c r
    rw [parts_cons]
    by_cases e : b = c
    · rw [if_pos e]
      cases hp : parts c r with
      | nil => exact absurd hp (parts_ne c r)
      | cons q t =>
        rw [hp] at ih
        simp [glue, ih, e]
    · rw [if_neg e]
      cases hp : parts c r with
      | nil => exact absurd hp (parts_ne c r)
      | cons q t =>
        rw [hp] at ih
        cases t with
        | nil => simp only [glue] at ih ⊢; rw [ih]
        | cons u v => simp only [glue] at ih ⊢; rw [List.cons_append, ih]
theorem countFrom_miss (c : UInt8) (n : Nat) (s : List UInt8) (h : index s [c] = -1) : countFrom [c] n s = 0 := by
  cases n with
  | zero => rfl
  | succ n => unfold countFrom; simp [h]
theorem countFrom_cut (c : UInt8) : ∀ (n : Nat) (s : List UInt8), s.length < n → splitK [c] 0 (countFrom [c] n s) s = parts c s
  | 0, s, h => by omega
  | n + 1, s, h => by
    have hc := cut_eq c s
    rw [parts_cut, ← hc]
    unfold cut
    have hg := index_ge s [c]
    by_cases e : index s [c] = -1
    · rw [countFrom_miss c _ s e]
      simp [splitK, e]
    · have e0 : 0 ≤ index s [c] := by omega
      have hr := index_room s [c] e0
      have l1 : ([c] : List UInt8).length = 1 := rfl
      rw [l1] at hr
      have ih := countFrom_cut c n (s.drop ((index s [c]).toNat + [c].length)) (by rw [List.length_drop, l1]; omega)
      have e1 : (index s [c] == -1) = false := by simpa using e
      have ec : countFrom [c] (n + 1) s = countFrom [c] n (s.drop ((index s [c]).toNat + [c].length)) + 1 := by
        rw [countFrom, if_neg (by simp [e1])]; omega
      rw [ec]
      unfold splitK
      rw [if_neg (by simp [e1]), if_pos e0, ih]
      simp
theorem count_le (c : UInt8) : ∀ (n : Nat) (s : List UInt8), countFrom [c] n s ≤ s.length
  | 0, s => Nat.zero_le _
  | n + 1, s => by
    by_cases e : index s [c] = -1
    · rw [countFrom_miss c _ s e]; omega
    · have e0 : 0 ≤ index s [c] := by have := index_ge s [c]; omega
      have hr := index_room s [c] e0
      have l1 : ([c] : List UInt8).length = 1 := rfl
      have ih := count_le c n (s.drop ((index s [c]).toNat + [c].length))
      rw [List.length_drop] at ih
      have e1 : (index s [c] == -1) = false := by simpa using e
      rw [countFrom, if_neg (by simp [e1])]
      rw [l1] at hr ih ⊢
      omega
theorem splitK_len (c : UInt8) : ∀ (n : Nat) (s : List UInt8), s.length < n → (splitK [c] 0 (countFrom [c] n s) s).length = countFrom [c] n s + 1
  | 0, s, h => by omega
  | n + 1, s, h => by
    by_cases e : index s [c] = -1
    · rw [countFrom_miss c _ s e]; rfl
    · have e0 : 0 ≤ index s [c] := by have := index_ge s [c]; omega
      have hr := index_room s [c] e0
      have l1 : ([c] : List UInt8).length = 1 := rfl
      rw [l1] at hr
      have ih := splitK_len c n (s.drop ((index s [c]).toNat + [c].length)) (by rw [List.length_drop, l1]; omega)
      have e1 : (index s [c] == -1) = false := by simpa using e
      have ec : countFrom [c] (n + 1) s = countFrom [c] n (s.drop ((index s [c]).toNat + [c].length)) + 1 := by
        rw [countFrom, if_neg (by simp [e1])]; omega
      rw [ec]
      unfold splitK
      rw [if_neg (by simp [e1]), List.length_cons, ih]
/-- strings.Split at one byte. -/
theorem split_eq (c : UInt8) (s : List UInt8) : splitK [c] 0 (count s [c]) s = parts c s := countFrom_cut c _ s (by omega)
def isDig (b : UInt8) : Bool := decide (48 ≤ b.toNat) && decide (b.toNat ≤ 57)
def valFrom : Nat → List UInt8 → Nat
  | a, [] => a
  | a, b :: r => valFrom (10 * a + (b.toNat - 48)) r
/-- Digits, without a needless 0 ahead. -/
def Canon (s : List UInt8) : Prop := 1 ≤ s.length ∧ ¬ (1 < s.length ∧ s.head? = some 48) ∧ s.all isDig = true
instance (s : List UInt8) : Decidable (Canon s) := by unfold Canon; infer_instance
theorem isDig_iff (b : UInt8) : isDig b = true ↔ 48 ≤ b.toNat ∧ b.toNat ≤ 57 := by simp [isDig]
/-- A number of at most so many digits, as a word has it. -/
def numP (most : Nat) (s : List UInt8) : Option Nat := if Canon s ∧ s.length ≤ most then some (valFrom 0 s) else none
end Go.Proofs.YtnhmlneebnkjcaaDoor.TX
namespace Go.Proofs.YtnhmlneebnkjcaaDoor.X
open Go Go.RowKit Go.Proofs.YtnhmlneebnkjcaaDoor.TX Go.Proofs.YtnhmlneebnkjcaaDoorW.PrintWords Go.Proofs.YtnhmlneebnkjcaaDoorW.PrintLast Go.Proofs.YtnhmlneebnkjcaaDoorW.PrintMore
theorem below_drawn (w : World) (n : Nat) : Below w.heap.size w (w.drewN n) := ⟨rfl, rfl, rfl, Nat.le_refl _, fun _ _ => rfl⟩
/-- The first piece, the rest, and whether the byte stands in it. -/
def strings_Cut.f (a0 a1 : ByteArray) : Option (ByteArray × ByteArray × Bool) := if a0.size < 4294967281 then some (⟨(Lib.cut a0.data.toList a1.data.toList).1.toArray⟩, ⟨(Lib.cut a0.data.toList a1.data.toList).2.1.toArray⟩, (Lib.cut a0.data.toList a1.data.toList).2.2) else none
theorem strings_Cut.calls (a0 a1 r1 r2 : ByteArray) (r3 : Bool) (w : World) (hG : GI w) (h : strings_Cut.f a0 a1 = some (r1, r2, r3)) :
    Calls Tryd.prog 47 #[.string a0, .string a1] w fun e w' => e = .returned (.tuple #[.string r1, .string r2, .bool r3]) ∧ Below w.heap.size w w' := by
  unfold strings_Cut.f at h
  by_cases hs : a0.size < 4294967281
  · rw [if_pos hs] at h
    obtain ⟨m, hm⟩ := hG.max
    simp only [Option.some.injEq, Prod.mk.injEq] at h
    obtain ⟨rfl, rfl, rfl⟩ := h
    refine (Tryd.strings_Cut a0 a1 m w hs hm).mono ?_
    rintro e w' ⟨rfl, n, rfl⟩
    exact ⟨rfl, below_drawn w n⟩
  · rw [if_neg hs] at h; cases h
/-- All pieces. -/
def strings_Split.f (a0 a1 : ByteArray) : Option (List ByteArray) := if a0.size < 4294967281 ∧ a1.size = 1 then some (Lib.splitB a1 0 (Lib.countB a0 a1) a0) else none
theorem one_byte {b : ByteArray} (h : b.size = 1) : ∃ c, b = ⟨#[c]⟩ := by
  obtain ⟨⟨l⟩⟩ := b
  match l with
  | [] => cases h
  | [c] => exact ⟨c, rfl⟩
  | _ :: _ :: _ => simp [ByteArray.size] at h
theorem split_len (s : ByteArray) (c : UInt8) : (Lib.splitB ⟨#[c]⟩ 0 (Lib.countB s ⟨#[c]⟩) s).length = Lib.countB s ⟨#[c]⟩ + 1 := by
  have e := congrArg List.length (Lib.splitB_data ⟨#[c]⟩ 0 (Lib.countB s ⟨#[c]⟩) s)
  rw [List.length_map] at e
  rw [e]
  exact splitK_len c _ s.data.toList (by omega)
theorem strings_Split.calls (a0 a1 : ByteArray) (r : List ByteArray) (w : World) (hG : GI w) (h : strings_Split.f a0 a1 = some r) :
    Calls Tryd.prog 48 #[.string a0, .string a1] w fun e w' => ∃ v0_ : Value, e = .returned (v0_) ∧ Kd.R Kd.string 9 w' w.heap.size (fun _ => True) v0_ r ∧ Below w.heap.size w w' := by
  unfold strings_Split.f at h
  by_cases hs : a0.size < 4294967281 ∧ a1.size = 1
  · rw [if_pos hs] at h
    obtain ⟨m, hm⟩ := hG.max
    obtain rfl := Option.some.inj h
    obtain ⟨hs, h1⟩ := hs
    obtain ⟨c, rfl⟩ := one_byte h1
    have hl := split_len a0 c
    have hb : Lib.countB a0 ⟨#[c]⟩ ≤ a0.size := by
      have := count_le c (a0.data.toList.length + 1) a0.data.toList
      have e : a0.data.toList.length = a0.size := Array.length_toList
      have e2 : Lib.countB a0 ⟨#[c]⟩ = Lib.countFrom [c] (a0.data.toList.length + 1) a0.data.toList := rfl
      omega
    refine (Tryd.strings_Split a0 ⟨#[c]⟩ m w hs hm (by omega)).mono ?_
    rintro e w' ⟨rfl, rfl⟩
    refine ⟨_, rfl, ?_, below_alloc (Below.refl _ _) _⟩
    rw [← hl]
    have hm2 : (Lib.splitB ⟨#[c]⟩ 0 (Lib.countB a0 ⟨#[c]⟩) a0).length ≤ maxLen := by rw [hl]; simp only [maxLen]; omega
    clear hl
    generalize Lib.splitB ⟨#[c]⟩ 0 (Lib.countB a0 ⟨#[c]⟩) a0 = ps at hm2 ⊢
    refine Kd.R_of_own ⟨by simp [encs], .inr ⟨w.heap.size, _, (ps.map Value.string).toArray, rfl, Nat.le_refl _, ?_, Nat.le_refl _, hm2, by simp, by rw [Nat.mul_one]; exact List.take_of_length_le (by simp)⟩⟩ (fun _ _ => trivial)
    exact Array.getElem?_push_size
  · rw [if_neg hs] at h; cases h
end Go.Proofs.YtnhmlneebnkjcaaDoor.X
namespace Go.Proofs.YtnhmlneebnkjcaaDoor.Pr
open Go.RowKit Go.Proofs.YtnhmlneebnkjcaaDoorW.PrintWords Go.Proofs.YtnhmlneebnkjcaaDoorW.PrintLast Go.Proofs.YtnhmlneebnkjcaaDoorW.PrintMore Go.Proofs.YtnhmlneebnkjcaaDoor.X
attribute [local go_sem] max2_int min2_int max_two min_two max_three min_three max_four min_four   -- for this text's walks alone
set_option linter.unusedVariables false
set_option linter.unusedSimpArgs false
theorem eqA46 (d : Nat) (w : World) (x0 y0 : Int) (x1 y1 : Int) :
  (Op.equalIn (d + 2) 46 (.agg #[.int .i64 x0, .int .i64 x1]) (.agg #[.int .i64 y0, .int .i64 y1])).run Tryd.prog w = .ok (x0 == y0 && (x1 == y1)) w := by
 refine eqA_of Tryd.underlying46 (by kernel_rfl) ?_
 refine eqf_cons (by rfl) (by go_simp; rfl) (by go_simp; rfl) (by go_simp) ?_
 exact eqf_last (by rfl) (by go_simp; rfl) (by go_simp; rfl) (by go_simp)
end Go.Proofs.YtnhmlneebnkjcaaDoor.Pr
namespace Go.Proofs.YtnhmlneebnkjcaaDoor.Pr
open Go.RowKit Go.Proofs.YtnhmlneebnkjcaaDoorW.PrintWords Go.Proofs.YtnhmlneebnkjcaaDoorW.PrintLast Go.Proofs.YtnhmlneebnkjcaaDoorW.PrintMore Go.Proofs.YtnhmlneebnkjcaaDoor.X
attribute [local go_sem] max2_int min2_int max_two min_two max_three min_three max_four min_four   -- for this text's walks alone
set_option linter.unusedVariables false
set_option linter.unusedSimpArgs false
mutual
def cask_named.j0 : Nat → ByteArray → Bool → Option (Bool)
 | 0, _, _ => none
 | k + 1, x0, x12 => if x12 = true then (some false) else (cask_named.l0 k x0 (x0.size : Int) 0)
def cask_named.l0 : Nat → ByteArray → Int → Int → Option (Bool)
 | 0, _, _, _ => none
 | k + 1, x0, x14, x15 => if x15 < x14 then (if 0 ≤ x15 then (if x15 < (x0.size : Int) then (if (bt x0 x15) ≥ 97 then (if (bt x0 x15) ≤ 122 then (cask_named.l0 k x0 x14 (wrap64 (x15 + 1))) else (if (bt x0 x15) ≥ 65 then (if (bt x0 x15) ≤ 90 then (cask_named.l0 k x0 x14 (wrap64 (x15 + 1))) else (if (bt x0 x15) ≥ 48 then (if (bt x0 x15) ≤ 57 then (cask_named.l0 k x0 x14 (wrap64 (x15 + 1))) else (if (bt x0 x15) = 45 then (cask_named.l0 k x0 x14 (wrap64 (x15 + 1))) else (if ((bt x0 x15) = 46) then (cask_named.l0 k x0 x14 (wrap64 (x15 + 1))) else (some false)))) else (if (bt x0 x15) = 45 then (cask_named.l0 k x0 x14 (wrap64 (x15 + 1))) else (if ((bt x0 x15) = 46) then (cask_named.l0 k x0 x14 (wrap64 (x15 + 1))) else (some false))))) else (if (bt x0 x15) ≥ 48 then (if (bt x0 x15) ≤ 57 then (cask_named.l0 k x0 x14 (wrap64 (x15 + 1))) else (if (bt x0 x15) = 45 then (cask_named.l0 k x0 x14 (wrap64 (x15 + 1))) else (if ((bt x0 x15) = 46) then (cask_named.l0 k x0 x14 (wrap64 (x15 + 1))) else (some false)))) else (if (bt x0 x15) = 45 then (cask_named.l0 k x0 x14 (wrap64 (x15 + 1))) else (if ((bt x0 x15) = 46) then (cask_named.l0 k x0 x14 (wrap64 (x15 + 1))) else (some false)))))) else (if (bt x0 x15) ≥ 65 then (if (bt x0 x15) ≤ 90 then (cask_named.l0 k x0 x14 (wrap64 (x15 + 1))) else (if (bt x0 x15) ≥ 48 then (if (bt x0 x15) ≤ 57 then (cask_named.l0 k x0 x14 (wrap64 (x15 + 1))) else (if (bt x0 x15) = 45 then (cask_named.l0 k x0 x14 (wrap64 (x15 + 1))) else (if ((bt x0 x15) = 46) then (cask_named.l0 k x0 x14 (wrap64 (x15 + 1))) else (some false)))) else (if (bt x0 x15) = 45 then (cask_named.l0 k x0 x14 (wrap64 (x15 + 1))) else (if ((bt x0 x15) = 46) then (cask_named.l0 k x0 x14 (wrap64 (x15 + 1))) else (some false))))) else (if (bt x0 x15) ≥ 48 then (if (bt x0 x15) ≤ 57 then (cask_named.l0 k x0 x14 (wrap64 (x15 + 1))) else (if (bt x0 x15) = 45 then (cask_named.l0 k x0 x14 (wrap64 (x15 + 1))) else (if ((bt x0 x15) = 46) then (cask_named.l0 k x0 x14 (wrap64 (x15 + 1))) else (some false)))) else (if (bt x0 x15) = 45 then (cask_named.l0 k x0 x14 (wrap64 (x15 + 1))) else (if ((bt x0 x15) = 46) then (cask_named.l0 k x0 x14 (wrap64 (x15 + 1))) else (some false)))))) else (none)) else (none)) else (some true)
end
def cask_named.f (k : Nat) (a0 : ByteArray) : Option (Bool) := if (a0.size : Int) < 1 then (cask_named.j0 k a0 true) else (cask_named.j0 k a0 (decide ((a0.size : Int) > 64)))
set_option maxHeartbeats 8000000 in
set_option maxRecDepth 100000 in
theorem cask_named.calls (k : Nat) (a0 : ByteArray) (r : Bool) (w : World) (h : cask_named.f k a0 = some r) :
  Calls Tryd.prog 38 #[.string a0] w fun e w' => e = .returned (.bool r) ∧ Drawn0 w w' := by
 have H : (if (a0.size : Int) < 1 then (cask_named.j0 k a0 true) else (cask_named.j0 k a0 (decide ((a0.size : Int) > 64)))) = some r := h; clear h; have HC2 := Aside0.mk H; clear H; go_enter Tryd.func38, Tryd.ntmps38
 go_upto_region 1 with (fail)
 go_cut [12] (fun v12 wc => ∃ (kq : Nat) (x12_1 : Bool), v12 = .bool x12_1 ∧ Aside0 (cask_named.j0 kq a0 x12_1 = some r) ∧ Aside0 (kq ≤ k) ∧ Drawn0 w wc)
 case first =>
  have H := HC2.out; clear HC2; by_cases c3 : (a0.size : Int) < 1
  ·
   rw [if_pos c3] at H; have c3b0 : decide ((a0.size : Int) < 1) = true := decide_eq_true c3; have c3b1 : decide (a0.size < 1) = true := decide_eq_true (by omega); clear c3; (first | rw [c3b0] | (simp only [i64_w, i32_w]; rw [c3b0]) | skip)
   have H' := Aside0.mk H; clear H; go_wp2; go_meet
   case rel => exact ⟨_, (true), (by first | rfl | (simp; done) | (simp [*]; done)), H', ⟨by first | omega | exact Nat.le_refl _⟩, by repeat (first | exact Drawn0.refl _ | apply Drawn0.step)⟩
  ·
   rw [if_neg c3] at H; have c3b0 : decide ((a0.size : Int) < 1) = false := decide_eq_false c3; have c3b1 : decide (a0.size < 1) = false := decide_eq_false (by omega); clear c3; (first | rw [c3b0] | (simp only [i64_w, i32_w]; rw [c3b0]) | skip)
   have H' := Aside0.mk H; clear H; go_wp2; go_meet
   case rel => exact ⟨_, (decide ((a0.size : Int) > 64)), (by first | rfl | (simp; done) | (simp [*]; done)), H', ⟨by first | omega | exact Nat.le_refl _⟩, by repeat (first | exact Drawn0.refl _ | apply Drawn0.step)⟩
 case rest =>
  clear HC2; try clear p2
  try clear c3
  try clear c3b0
  try clear c3b1
  obtain ⟨kq, x12_1, rfl, HA, HJ1, ⟨mc1, rfl⟩⟩ := hcut
  cases kq with
  | zero => exact absurd HA.out (by simp [cask_named.j0])
  | succ kj1 =>
   have H := HA.out; clear HA; simp only [cask_named.j0] at H; by_cases c4 : x12_1 = true
   ·
    subst c4; have H1 : (some false) = some r := by rw [if_pos rfl] at H; exact H
    clear H; have H := H1; clear H1; obtain rfl := Option.some.inj H; go_wp2; go_ret
    exact ⟨by first | rfl | (simp; done) | (simp [*]; done), by repeat (first | exact Drawn0.refl _ | apply Drawn0.step)⟩
   ·
    replace c4 := Bool.eq_false_iff.mpr c4; subst c4; have H1 : (cask_named.l0 kj1 a0 (a0.size : Int) 0) = some r := by rw [if_neg (show ¬ (false = true) by decide)] at H; exact H
    clear H; have H := H1; clear H1; have H' := Aside0.mk H; clear H; go_wp2; go_loopg [15] kj1 (fun kq v15 w' => ∃ (x15_2 : Int), v15 = .int .i64 x15_2 ∧ Aside0 (cask_named.l0 kq a0 (a0.size : Int) x15_2 = some r) ∧ Aside0 (kq ≤ kj1) ∧ Drawn0 w w')
    case atStart => exact ⟨(0), (by first | rfl | (simp; done) | (simp [*]; done)), H', ⟨Nat.le_refl _⟩, by repeat (first | exact Drawn0.refl _ | apply Drawn0.step)⟩
    case round =>
     clear H'; try clear c1
     try clear p2
     try clear c3
     try clear c3b0
     try clear c3b1
     try clear c4
     try clear p2
     obtain ⟨x15_2, rfl, HA, HK2, ⟨m2, rfl⟩⟩ := hrel
     cases gk with
     | zero => exact absurd HA.out (by simp [cask_named.l0])
     | succ k2 =>
      have H := HA.out; clear HA; simp only [cask_named.l0] at H; by_cases c5 : x15_2 < (a0.size : Int)
      ·
       rw [if_pos c5] at H; have c5b0 : decide (x15_2 < (a0.size : Int)) = true := decide_eq_true c5; clear c5; by_cases c6 : 0 ≤ x15_2
       ·
        rw [if_pos c6] at H; have c6b0 : decide (0 ≤ x15_2) = true := decide_eq_true c6; clear c6; by_cases c7 : x15_2 < (a0.size : Int)
        ·
         rw [if_pos c7] at H; have c7b0 : decide (x15_2 < (a0.size : Int)) = true := decide_eq_true c7; clear c7; by_cases c9 : (bt a0 x15_2) ≥ 97
         ·
          rw [if_pos c9] at H; have c9b0 : decide (97 ≤ (bt a0 x15_2)) = true := decide_eq_true c9; clear c9; by_cases c10 : (bt a0 x15_2) ≤ 122
          ·
           rw [if_pos c10] at H; have c10b0 : decide ((bt a0 x15_2) ≤ 122) = true := decide_eq_true c10; clear c10; have H' := Aside0.mk H; clear H; have p8 : 0 ≤ (x15_2 : Int) := of_decide_eq_true (by first | (with_reducible assumption) | assumption); have q8 : x15_2 < (a0.size : Int) := of_decide_eq_true (by first | (with_reducible assumption) | assumption); have hx8 := bt_at a0 x15_2; replace p8 := eq_true p8; replace q8 := eq_true q8; go_wp2; go_roundg k2
           case measure => have := HJ1.out; have := HK2.out; omega
           case rel => exact ⟨(wrap64 (x15_2 + 1)), (by first | rfl | (simp; done) | (simp [*]; done)), H', ⟨by have := HJ1.out; have := HK2.out; omega⟩, by repeat (first | exact Drawn0.refl _ | apply Drawn0.step)⟩
          ·
           rw [if_neg c10] at H; have c10b0 : decide ((bt a0 x15_2) ≤ 122) = false := decide_eq_false c10; clear c10; by_cases c11 : (bt a0 x15_2) ≥ 65
           ·
            rw [if_pos c11] at H; have c11b0 : decide (65 ≤ (bt a0 x15_2)) = true := decide_eq_true c11; clear c11; by_cases c12 : (bt a0 x15_2) ≤ 90
            ·
             rw [if_pos c12] at H; have c12b0 : decide ((bt a0 x15_2) ≤ 90) = true := decide_eq_true c12; clear c12; have H' := Aside0.mk H; clear H; have p8 : 0 ≤ (x15_2 : Int) := of_decide_eq_true (by first | (with_reducible assumption) | assumption); have q8 : x15_2 < (a0.size : Int) := of_decide_eq_true (by first | (with_reducible assumption) | assumption); have hx8 := bt_at a0 x15_2; replace p8 := eq_true p8; replace q8 := eq_true q8; go_wp2; go_roundg k2
             case measure => have := HJ1.out; have := HK2.out; omega
             case rel => exact ⟨(wrap64 (x15_2 + 1)), (by first | rfl | (simp; done) | (simp [*]; done)), H', ⟨by have := HJ1.out; have := HK2.out; omega⟩, by repeat (first | exact Drawn0.refl _ | apply Drawn0.step)⟩
            ·
             rw [if_neg c12] at H; have c12b0 : decide ((bt a0 x15_2) ≤ 90) = false := decide_eq_false c12; clear c12; by_cases c13 : (bt a0 x15_2) ≥ 48
             ·
              rw [if_pos c13] at H; have c13b0 : decide (48 ≤ (bt a0 x15_2)) = true := decide_eq_true c13; clear c13; by_cases c14 : (bt a0 x15_2) ≤ 57
              ·
               rw [if_pos c14] at H; have c14b0 : decide ((bt a0 x15_2) ≤ 57) = true := decide_eq_true c14; clear c14; have H' := Aside0.mk H; clear H; have p8 : 0 ≤ (x15_2 : Int) := of_decide_eq_true (by first | (with_reducible assumption) | assumption); have q8 : x15_2 < (a0.size : Int) := of_decide_eq_true (by first | (with_reducible assumption) | assumption); have hx8 := bt_at a0 x15_2; replace p8 := eq_true p8; replace q8 := eq_true q8; go_wp2; go_roundg k2
               case measure => have := HJ1.out; have := HK2.out; omega
               case rel => exact ⟨(wrap64 (x15_2 + 1)), (by first | rfl | (simp; done) | (simp [*]; done)), H', ⟨by have := HJ1.out; have := HK2.out; omega⟩, by repeat (first | exact Drawn0.refl _ | apply Drawn0.step)⟩
              ·
               rw [if_neg c14] at H; have c14b0 : decide ((bt a0 x15_2) ≤ 57) = false := decide_eq_false c14; clear c14; by_cases c15 : (bt a0 x15_2) = 45
               ·
                rw [if_pos c15] at H; have c15b0 : ((bt a0 x15_2) == 45) = true := beq_iff_eq.mpr c15; have c15b1 : ((bt a0 x15_2) != 45) = false := bne_eq_false_iff_eq.mpr c15; clear c15; have H' := Aside0.mk H; clear H; have p8 : 0 ≤ (x15_2 : Int) := of_decide_eq_true (by first | (with_reducible assumption) | assumption); have q8 : x15_2 < (a0.size : Int) := of_decide_eq_true (by first | (with_reducible assumption) | assumption); have hx8 := bt_at a0 x15_2; replace p8 := eq_true p8; replace q8 := eq_true q8; go_wp2; go_roundg k2
                case measure => have := HJ1.out; have := HK2.out; omega
                case rel => exact ⟨(wrap64 (x15_2 + 1)), (by first | rfl | (simp; done) | (simp [*]; done)), H', ⟨by have := HJ1.out; have := HK2.out; omega⟩, by repeat (first | exact Drawn0.refl _ | apply Drawn0.step)⟩
               ·
                rw [if_neg c15] at H; have c15b0 : ((bt a0 x15_2) == 45) = false := beq_eq_false_iff_ne.mpr c15; have c15b1 : ((bt a0 x15_2) != 45) = true := bne_iff_ne.mpr c15; by_cases c16 : ((bt a0 x15_2) = 46)
                ·
                 rw [if_pos c16] at H; have c16b0 : ((bt a0 x15_2) == 46) = true := beq_iff_eq.mpr c16; have c16b1 : ((bt a0 x15_2) != 46) = false := bne_eq_false_iff_eq.mpr c16; clear c16; have H' := Aside0.mk H; clear H; have p8 : 0 ≤ (x15_2 : Int) := of_decide_eq_true (by first | (with_reducible assumption) | assumption); have q8 : x15_2 < (a0.size : Int) := of_decide_eq_true (by first | (with_reducible assumption) | assumption); have hx8 := bt_at a0 x15_2; replace p8 := eq_true p8; replace q8 := eq_true q8; go_wp2; go_roundg k2
                 case measure => have := HJ1.out; have := HK2.out; omega
                 case rel => exact ⟨(wrap64 (x15_2 + 1)), (by first | rfl | (simp; done) | (simp [*]; done)), H', ⟨by have := HJ1.out; have := HK2.out; omega⟩, by repeat (first | exact Drawn0.refl _ | apply Drawn0.step)⟩
                ·
                 rw [if_neg c16] at H; have c16b0 : ((bt a0 x15_2) == 46) = false := beq_eq_false_iff_ne.mpr c16; have c16b1 : ((bt a0 x15_2) != 46) = true := bne_iff_ne.mpr c16; obtain rfl := Option.some.inj H; have p8 : 0 ≤ (x15_2 : Int) := of_decide_eq_true (by first | (with_reducible assumption) | assumption); have q8 : x15_2 < (a0.size : Int) := of_decide_eq_true (by first | (with_reducible assumption) | assumption); have hx8 := bt_at a0 x15_2; replace p8 := eq_true p8; replace q8 := eq_true q8; go_wp2; go_ret
                 exact ⟨by first | rfl | (simp; done) | (simp [*]; done), by repeat (first | exact Drawn0.refl _ | apply Drawn0.step)⟩
             ·
              rw [if_neg c13] at H; have c13b0 : decide (48 ≤ (bt a0 x15_2)) = false := decide_eq_false c13; clear c13; by_cases c17 : (bt a0 x15_2) = 45
              ·
               rw [if_pos c17] at H; have c17b0 : ((bt a0 x15_2) == 45) = true := beq_iff_eq.mpr c17; have c17b1 : ((bt a0 x15_2) != 45) = false := bne_eq_false_iff_eq.mpr c17; clear c17; have H' := Aside0.mk H; clear H; have p8 : 0 ≤ (x15_2 : Int) := of_decide_eq_true (by first | (with_reducible assumption) | assumption); have q8 : x15_2 < (a0.size : Int) := of_decide_eq_true (by first | (with_reducible assumption) | assumption); have hx8 := bt_at a0 x15_2; replace p8 := eq_true p8; replace q8 := eq_true q8; go_wp2; go_roundg k2
               case measure => have := HJ1.out; have := HK2.out; omega
               case rel => exact ⟨(wrap64 (x15_2 + 1)), (by first | rfl | (simp; done) | (simp [*]; done)), H', ⟨by have := HJ1.out; have := HK2.out; omega⟩, by repeat (first | exact Drawn0.refl _ | apply Drawn0.step)⟩
              ·
               rw [if_neg c17] at H; have c17b0 : ((bt a0 x15_2) == 45) = false := beq_eq_false_iff_ne.mpr c17; have c17b1 : ((bt a0 x15_2) != 45) = true := bne_iff_ne.mpr c17; by_cases c18 : ((bt a0 x15_2) = 46)
               ·
                rw [if_pos c18] at H; have c18b0 : ((bt a0 x15_2) == 46) = true := beq_iff_eq.mpr c18; have c18b1 : ((bt a0 x15_2) != 46) = false := bne_eq_false_iff_eq.mpr c18; clear c18; have H' := Aside0.mk H; clear H; have p8 : 0 ≤ (x15_2 : Int) := of_decide_eq_true (by first | (with_reducible assumption) | assumption); have q8 : x15_2 < (a0.size : Int) := of_decide_eq_true (by first | (with_reducible assumption) | assumption); have hx8 := bt_at a0 x15_2; replace p8 := eq_true p8; replace q8 := eq_true q8; go_wp2; go_roundg k2
                case measure => have := HJ1.out; have := HK2.out; omega
                case rel => exact ⟨(wrap64 (x15_2 + 1)), (by first | rfl | (simp; done) | (simp [*]; done)), H', ⟨by have := HJ1.out; have := HK2.out; omega⟩, by repeat (first | exact Drawn0.refl _ | apply Drawn0.step)⟩
               ·
                rw [if_neg c18] at H; have c18b0 : ((bt a0 x15_2) == 46) = false := beq_eq_false_iff_ne.mpr c18; have c18b1 : ((bt a0 x15_2) != 46) = true := bne_iff_ne.mpr c18; obtain rfl := Option.some.inj H; have p8 : 0 ≤ (x15_2 : Int) := of_decide_eq_true (by first | (with_reducible assumption) | assumption); have q8 : x15_2 < (a0.size : Int) := of_decide_eq_true (by first | (with_reducible assumption) | assumption); have hx8 := bt_at a0 x15_2; replace p8 := eq_true p8; replace q8 := eq_true q8; go_wp2; go_ret
                exact ⟨by first | rfl | (simp; done) | (simp [*]; done), by repeat (first | exact Drawn0.refl _ | apply Drawn0.step)⟩
           ·
            rw [if_neg c11] at H; have c11b0 : decide (65 ≤ (bt a0 x15_2)) = false := decide_eq_false c11; clear c11; by_cases c19 : (bt a0 x15_2) ≥ 48
            ·
             rw [if_pos c19] at H; have c19b0 : decide (48 ≤ (bt a0 x15_2)) = true := decide_eq_true c19; clear c19; by_cases c20 : (bt a0 x15_2) ≤ 57
             ·
              rw [if_pos c20] at H; have c20b0 : decide ((bt a0 x15_2) ≤ 57) = true := decide_eq_true c20; clear c20; have H' := Aside0.mk H; clear H; have p8 : 0 ≤ (x15_2 : Int) := of_decide_eq_true (by first | (with_reducible assumption) | assumption); have q8 : x15_2 < (a0.size : Int) := of_decide_eq_true (by first | (with_reducible assumption) | assumption); have hx8 := bt_at a0 x15_2; replace p8 := eq_true p8; replace q8 := eq_true q8; go_wp2; go_roundg k2
              case measure => have := HJ1.out; have := HK2.out; omega
              case rel => exact ⟨(wrap64 (x15_2 + 1)), (by first | rfl | (simp; done) | (simp [*]; done)), H', ⟨by have := HJ1.out; have := HK2.out; omega⟩, by repeat (first | exact Drawn0.refl _ | apply Drawn0.step)⟩
             ·
              rw [if_neg c20] at H; have c20b0 : decide ((bt a0 x15_2) ≤ 57) = false := decide_eq_false c20; clear c20; by_cases c21 : (bt a0 x15_2) = 45
              ·
               rw [if_pos c21] at H; have c21b0 : ((bt a0 x15_2) == 45) = true := beq_iff_eq.mpr c21; have c21b1 : ((bt a0 x15_2) != 45) = false := bne_eq_false_iff_eq.mpr c21; clear c21; have H' := Aside0.mk H; clear H; have p8 : 0 ≤ (x15_2 : Int) := of_decide_eq_true (by first | (with_reducible assumption) | assumption); have q8 : x15_2 < (a0.size : Int) := of_decide_eq_true (by first | (with_reducible assumption) | assumption); have hx8 := bt_at a0 x15_2; replace p8 := eq_true p8; replace q8 := eq_true q8; go_wp2; go_roundg k2
               case measure => have := HJ1.out; have := HK2.out; omega
               case rel => exact ⟨(wrap64 (x15_2 + 1)), (by first | rfl | (simp; done) | (simp [*]; done)), H', ⟨by have := HJ1.out; have := HK2.out; omega⟩, by repeat (first | exact Drawn0.refl _ | apply Drawn0.step)⟩
              ·
               rw [if_neg c21] at H; have c21b0 : ((bt a0 x15_2) == 45) = false := beq_eq_false_iff_ne.mpr c21; have c21b1 : ((bt a0 x15_2) != 45) = true := bne_iff_ne.mpr c21; by_cases c22 : ((bt a0 x15_2) = 46)
               ·
                rw [if_pos c22] at H; have c22b0 : ((bt a0 x15_2) == 46) = true := beq_iff_eq.mpr c22; have c22b1 : ((bt a0 x15_2) != 46) = false := bne_eq_false_iff_eq.mpr c22; clear c22; have H' := Aside0.mk H; clear H; have p8 : 0 ≤ (x15_2 : Int) := of_decide_eq_true (by first | (with_reducible assumption) | assumption); have q8 : x15_2 < (a0.size : Int) := of_decide_eq_true (by first | (with_reducible assumption) | assumption); have hx8 := bt_at a0 x15_2; replace p8 := eq_true p8; replace q8 := eq_true q8; go_wp2; go_roundg k2
                case measure => have := HJ1.out; have := HK2.out; omega
                case rel => exact ⟨(wrap64 (x15_2 + 1)), (by first | rfl | (simp; done) | (simp [*]; done)), H', ⟨by have := HJ1.out; have := HK2.out; omega⟩, by repeat (first | exact Drawn0.refl _ | apply Drawn0.step)⟩
               ·
                rw [if_neg c22] at H; have c22b0 : ((bt a0 x15_2) == 46) = false := beq_eq_false_iff_ne.mpr c22; have c22b1 : ((bt a0 x15_2) != 46) = true := bne_iff_ne.mpr c22; obtain rfl := Option.some.inj H; have p8 : 0 ≤ (x15_2 : Int) := of_decide_eq_true (by first | (with_reducible assumption) | assumption); have q8 : x15_2 < (a0.size : Int) := of_decide_eq_true (by first | (with_reducible assumption) | assumption); have hx8 := bt_at a0 x15_2; replace p8 := eq_true p8; replace q8 := eq_true q8; go_wp2; go_ret
                exact ⟨by first | rfl | (simp; done) | (simp [*]; done), by repeat (first | exact Drawn0.refl _ | apply Drawn0.step)⟩
            ·
             rw [if_neg c19] at H; have c19b0 : decide (48 ≤ (bt a0 x15_2)) = false := decide_eq_false c19; clear c19; by_cases c23 : (bt a0 x15_2) = 45
             ·
              rw [if_pos c23] at H; have c23b0 : ((bt a0 x15_2) == 45) = true := beq_iff_eq.mpr c23; have c23b1 : ((bt a0 x15_2) != 45) = false := bne_eq_false_iff_eq.mpr c23; clear c23; have H' := Aside0.mk H; clear H; have p8 : 0 ≤ (x15_2 : Int) := of_decide_eq_true (by first | (with_reducible assumption) | assumption); have q8 : x15_2 < (a0.size : Int) := of_decide_eq_true (by first | (with_reducible assumption) | assumption); have hx8 := bt_at a0 x15_2; replace p8 := eq_true p8; replace q8 := eq_true q8; go_wp2; go_roundg k2
              case measure => have := HJ1.out; have := HK2.out; omega
              case rel => exact ⟨(wrap64 (x15_2 + 1)), (by first | rfl | (simp; done) | (simp [*]; done)), H', ⟨by have := HJ1.out; have := HK2.out; omega⟩, by repeat (first | exact Drawn0.refl _ | apply Drawn0.step)⟩
             ·
              rw [if_neg c23] at H; have c23b0 : ((bt a0 x15_2) == 45) = false := beq_eq_false_iff_ne.mpr c23; have c23b1 : ((bt a0 x15_2) != 45) = true := bne_iff_ne.mpr c23; by_cases c24 : ((bt a0 x15_2) = 46)
              ·
               rw [if_pos c24] at H; have c24b0 : ((bt a0 x15_2) == 46) = true := beq_iff_eq.mpr c24; have c24b1 : ((bt a0 x15_2) != 46) = false := bne_eq_false_iff_eq.mpr c24; clear c24; have H' := Aside0.mk H; clear H; have p8 : 0 ≤ (x15_2 : Int) := of_decide_eq_true (by first | (with_reducible assumption) | assumption); have q8 : x15_2 < (a0.size : Int) := of_decide_eq_true (by first | (with_reducible assumption) | assumption); have hx8 := bt_at a0 x15_2; replace p8 := eq_true p8; replace q8 := eq_true q8; go_wp2; go_roundg k2
               case measure => have := HJ1.out; have := HK2.out; omega
               case rel => exact ⟨(wrap64 (x15_2 + 1)), (by first | rfl | (simp; done) | (simp [*]; done)), H', ⟨by have := HJ1.out; have := HK2.out; omega⟩, by repeat (first | exact Drawn0.refl _ | apply Drawn0.step)⟩
              ·
               rw [if_neg c24] at H; have c24b0 : ((bt a0 x15_2) == 46) = false := beq_eq_false_iff_ne.mpr c24; have c24b1 : ((bt a0 x15_2) != 46) = true := bne_iff_ne.mpr c24; obtain rfl := Option.some.inj H; have p8 : 0 ≤ (x15_2 : Int) := of_decide_eq_true (by first | (with_reducible assumption) | assumption); have q8 : x15_2 < (a0.size : Int) := of_decide_eq_true (by first | (with_reducible assumption) | assumption); have hx8 := bt_at a0 x15_2; replace p8 := eq_true p8; replace q8 := eq_true q8; go_wp2; go_ret
               exact ⟨by first | rfl | (simp; done) | (simp [*]; done), by repeat (first | exact Drawn0.refl _ | apply Drawn0.step)⟩
         ·
          rw [if_neg c9] at H; have c9b0 : decide (97 ≤ (bt a0 x15_2)) = false := decide_eq_false c9; clear c9; by_cases c25 : (bt a0 x15_2) ≥ 65
          ·
           rw [if_pos c25] at H; have c25b0 : decide (65 ≤ (bt a0 x15_2)) = true := decide_eq_true c25; clear c25; by_cases c26 : (bt a0 x15_2) ≤ 90
           ·
            rw [if_pos c26] at H; have c26b0 : decide ((bt a0 x15_2) ≤ 90) = true := decide_eq_true c26; clear c26; have H' := Aside0.mk H; clear H; have p8 : 0 ≤ (x15_2 : Int) := of_decide_eq_true (by first | (with_reducible assumption) | assumption); have q8 : x15_2 < (a0.size : Int) := of_decide_eq_true (by first | (with_reducible assumption) | assumption); have hx8 := bt_at a0 x15_2; replace p8 := eq_true p8; replace q8 := eq_true q8; go_wp2; go_roundg k2
            case measure => have := HJ1.out; have := HK2.out; omega
            case rel => exact ⟨(wrap64 (x15_2 + 1)), (by first | rfl | (simp; done) | (simp [*]; done)), H', ⟨by have := HJ1.out; have := HK2.out; omega⟩, by repeat (first | exact Drawn0.refl _ | apply Drawn0.step)⟩
           ·
            rw [if_neg c26] at H; have c26b0 : decide ((bt a0 x15_2) ≤ 90) = false := decide_eq_false c26; clear c26; by_cases c27 : (bt a0 x15_2) ≥ 48
            ·
             rw [if_pos c27] at H; have c27b0 : decide (48 ≤ (bt a0 x15_2)) = true := decide_eq_true c27; clear c27; by_cases c28 : (bt a0 x15_2) ≤ 57
             ·
              rw [if_pos c28] at H; have c28b0 : decide ((bt a0 x15_2) ≤ 57) = true := decide_eq_true c28; clear c28; have H' := Aside0.mk H; clear H; have p8 : 0 ≤ (x15_2 : Int) := of_decide_eq_true (by first | (with_reducible assumption) | assumption); have q8 : x15_2 < (a0.size : Int) := of_decide_eq_true (by first | (with_reducible assumption) | assumption); have hx8 := bt_at a0 x15_2; replace p8 := eq_true p8; replace q8 := eq_true q8; go_wp2; go_roundg k2
              case measure => have := HJ1.out; have := HK2.out; omega
              case rel => exact ⟨(wrap64 (x15_2 + 1)), (by first | rfl | (simp; done) | (simp [*]; done)), H', ⟨by have := HJ1.out; have := HK2.out; omega⟩, by repeat (first | exact Drawn0.refl _ | apply Drawn0.step)⟩
             ·
              rw [if_neg c28] at H; have c28b0 : decide ((bt a0 x15_2) ≤ 57) = false := decide_eq_false c28; clear c28; by_cases c29 : (bt a0 x15_2) = 45
              ·
               rw [if_pos c29] at H; have c29b0 : ((bt a0 x15_2) == 45) = true := beq_iff_eq.mpr c29; have c29b1 : ((bt a0 x15_2) != 45) = false := bne_eq_false_iff_eq.mpr c29; clear c29; have H' := Aside0.mk H; clear H; have p8 : 0 ≤ (x15_2 : Int) := of_decide_eq_true (by first | (with_reducible assumption) | assumption); have q8 : x15_2 < (a0.size : Int) := of_decide_eq_true (by first | (with_reducible assumption) | assumption); have hx8 := bt_at a0 x15_2; replace p8 := eq_true p8; replace q8 := eq_true q8; go_wp2; go_roundg k2
               case measure => have := HJ1.out; have := HK2.out; omega
               case rel => exact ⟨(wrap64 (x15_2 + 1)), (by first | rfl | (simp; done) | (simp [*]; done)), H', ⟨by have := HJ1.out; have := HK2.out; omega⟩, by repeat (first | exact Drawn0.refl _ | apply Drawn0.step)⟩
              ·
               rw [if_neg c29] at H; have c29b0 : ((bt a0 x15_2) == 45) = false := beq_eq_false_iff_ne.mpr c29; have c29b1 : ((bt a0 x15_2) != 45) = true := bne_iff_ne.mpr c29; by_cases c30 : ((bt a0 x15_2) = 46)
               ·
                rw [if_pos c30] at H; have c30b0 : ((bt a0 x15_2) == 46) = true := beq_iff_eq.mpr c30; have c30b1 : ((bt a0 x15_2) != 46) = false := bne_eq_false_iff_eq.mpr c30; clear c30; have H' := Aside0.mk H; clear H; have p8 : 0 ≤ (x15_2 : Int) := of_decide_eq_true (by first | (with_reducible assumption) | assumption); have q8 : x15_2 < (a0.size : Int) := of_decide_eq_true (by first | (with_reducible assumption) | assumption); have hx8 := bt_at a0 x15_2; replace p8 := eq_true p8; replace q8 := eq_true q8; go_wp2; go_roundg k2
                case measure => have := HJ1.out; have := HK2.out; omega
                case rel => exact ⟨(wrap64 (x15_2 + 1)), (by first | rfl | (simp; done) | (simp [*]; done)), H', ⟨by have := HJ1.out; have := HK2.out; omega⟩, by repeat (first | exact Drawn0.refl _ | apply Drawn0.step)⟩
               ·
                rw [if_neg c30] at H; have c30b0 : ((bt a0 x15_2) == 46) = false := beq_eq_false_iff_ne.mpr c30; have c30b1 : ((bt a0 x15_2) != 46) = true := bne_iff_ne.mpr c30; obtain rfl := Option.some.inj H; have p8 : 0 ≤ (x15_2 : Int) := of_decide_eq_true (by first | (with_reducible assumption) | assumption); have q8 : x15_2 < (a0.size : Int) := of_decide_eq_true (by first | (with_reducible assumption) | assumption); have hx8 := bt_at a0 x15_2; replace p8 := eq_true p8; replace q8 := eq_true q8; go_wp2; go_ret
                exact ⟨by first | rfl | (simp; done) | (simp [*]; done), by repeat (first | exact Drawn0.refl _ | apply Drawn0.step)⟩
            ·
             rw [if_neg c27] at H; have c27b0 : decide (48 ≤ (bt a0 x15_2)) = false := decide_eq_false c27; clear c27; by_cases c31 : (bt a0 x15_2) = 45
             ·
              rw [if_pos c31] at H; have c31b0 : ((bt a0 x15_2) == 45) = true := beq_iff_eq.mpr c31; have c31b1 : ((bt a0 x15_2) != 45) = false := bne_eq_false_iff_eq.mpr c31; clear c31; have H' := Aside0.mk H; clear H; have p8 : 0 ≤ (x15_2 : Int) := of_decide_eq_true (by first | (with_reducible assumption) | assumption); have q8 : x15_2 < (a0.size : Int) := of_decide_eq_true (by first | (with_reducible assumption) | assumption); have hx8 := bt_at a0 x15_2; replace p8 := eq_true p8; replace q8 := eq_true q8; go_wp2; go_roundg k2
              case measure => have := HJ1.out; have := HK2.out; omega
              case rel => exact ⟨(wrap64 (x15_2 + 1)), (by first | rfl | (simp; done) | (simp [*]; done)), H', ⟨by have := HJ1.out; have := HK2.out; omega⟩, by repeat (first | exact Drawn0.refl _ | apply Drawn0.step)⟩
             ·
              rw [if_neg c31] at H; have c31b0 : ((bt a0 x15_2) == 45) = false := beq_eq_false_iff_ne.mpr c31; have c31b1 : ((bt a0 x15_2) != 45) = true := bne_iff_ne.mpr c31; by_cases c32 : ((bt a0 x15_2) = 46)
              ·
               rw [if_pos c32] at H; have c32b0 : ((bt a0 x15_2) == 46) = true := beq_iff_eq.mpr c32; have c32b1 : ((bt a0 x15_2) != 46) = false := bne_eq_false_iff_eq.mpr c32; clear c32; have H' := Aside0.mk H; clear H; have p8 : 0 ≤ (x15_2 : Int) := of_decide_eq_true (by first | (with_reducible assumption) | assumption); have q8 : x15_2 < (a0.size : Int) := of_decide_eq_true (by first | (with_reducible assumption) | assumption); have hx8 := bt_at a0 x15_2; replace p8 := eq_true p8; replace q8 := eq_true q8; go_wp2; go_roundg k2
               case measure => have := HJ1.out; have := HK2.out; omega
               case rel => exact ⟨(wrap64 (x15_2 + 1)), (by first | rfl | (simp; done) | (simp [*]; done)), H', ⟨by have := HJ1.out; have := HK2.out; omega⟩, by repeat (first | exact Drawn0.refl _ | apply Drawn0.step)⟩
              ·
               rw [if_neg c32] at H; have c32b0 : ((bt a0 x15_2) == 46) = false := beq_eq_false_iff_ne.mpr c32; have c32b1 : ((bt a0 x15_2) != 46) = true := bne_iff_ne.mpr c32; obtain rfl := Option.some.inj H; have p8 : 0 ≤ (x15_2 : Int) := of_decide_eq_true (by first | (with_reducible assumption) | assumption); have q8 : x15_2 < (a0.size : Int) := of_decide_eq_true (by first | (with_reducible assumption) | assumption); have hx8 := bt_at a0 x15_2; replace p8 := eq_true p8; replace q8 := eq_true q8; go_wp2; go_ret
               exact ⟨by first | rfl | (simp; done) | (simp [*]; done), by repeat (first | exact Drawn0.refl _ | apply Drawn0.step)⟩
          ·
           rw [if_neg c25] at H; have c25b0 : decide (65 ≤ (bt a0 x15_2)) = false := decide_eq_false c25; clear c25; by_cases c33 : (bt a0 x15_2) ≥ 48
           ·
            rw [if_pos c33] at H; have c33b0 : decide (48 ≤ (bt a0 x15_2)) = true := decide_eq_true c33; clear c33; by_cases c34 : (bt a0 x15_2) ≤ 57
            ·
             rw [if_pos c34] at H; have c34b0 : decide ((bt a0 x15_2) ≤ 57) = true := decide_eq_true c34; clear c34; have H' := Aside0.mk H; clear H; have p8 : 0 ≤ (x15_2 : Int) := of_decide_eq_true (by first | (with_reducible assumption) | assumption); have q8 : x15_2 < (a0.size : Int) := of_decide_eq_true (by first | (with_reducible assumption) | assumption); have hx8 := bt_at a0 x15_2; replace p8 := eq_true p8; replace q8 := eq_true q8; go_wp2; go_roundg k2
             case measure => have := HJ1.out; have := HK2.out; omega
             case rel => exact ⟨(wrap64 (x15_2 + 1)), (by first | rfl | (simp; done) | (simp [*]; done)), H', ⟨by have := HJ1.out; have := HK2.out; omega⟩, by repeat (first | exact Drawn0.refl _ | apply Drawn0.step)⟩
            ·
             rw [if_neg c34] at H; have c34b0 : decide ((bt a0 x15_2) ≤ 57) = false := decide_eq_false c34; clear c34; by_cases c35 : (bt a0 x15_2) = 45
             ·
              rw [if_pos c35] at H; have c35b0 : ((bt a0 x15_2) == 45) = true := beq_iff_eq.mpr c35; have c35b1 : ((bt a0 x15_2) != 45) = false := bne_eq_false_iff_eq.mpr c35; clear c35; have H' := Aside0.mk H; clear H; have p8 : 0 ≤ (x15_2 : Int) := of_decide_eq_true (by first | (with_reducible assumption) | assumption); have q8 : x15_2 < (a0.size : Int) := of_decide_eq_true (by first | (with_reducible assumption) | assumption); have hx8 := bt_at a0 x15_2; replace p8 := eq_true p8; replace q8 := eq_true q8; go_wp2; go_roundg k2
              case measure => have := HJ1.out; have := HK2.out; omega
              case rel => exact ⟨(wrap64 (x15_2 + 1)), (by first | rfl | (simp; done) | (simp [*]; done)), H', ⟨by have := HJ1.out; have := HK2.out; omega⟩, by repeat (first | exact Drawn0.refl _ | apply Drawn0.step)⟩
             ·
              rw [if_neg c35] at H; have c35b0 : ((bt a0 x15_2) == 45) = false := beq_eq_false_iff_ne.mpr c35; have c35b1 : ((bt a0 x15_2) != 45) = true := bne_iff_ne.mpr c35; by_cases c36 : ((bt a0 x15_2) = 46)
              ·
               rw [if_pos c36] at H; have c36b0 : ((bt a0 x15_2) == 46) = true := beq_iff_eq.mpr c36; have c36b1 : ((bt a0 x15_2) != 46) = false := bne_eq_false_iff_eq.mpr c36; clear c36; have H' := Aside0.mk H; clear H; have p8 : 0 ≤ (x15_2 : Int) := of_decide_eq_true (by first | (with_reducible assumption) | assumption); have q8 : x15_2 < (a0.size : Int) := of_decide_eq_true (by first | (with_reducible assumption) | assumption); have hx8 := bt_at a0 x15_2; replace p8 := eq_true p8; replace q8 := eq_true q8; go_wp2; go_roundg k2
               case measure => have := HJ1.out; have := HK2.out; omega
               case rel => exact ⟨(wrap64 (x15_2 + 1)), (by first | rfl | (simp; done) | (simp [*]; done)), H', ⟨by have := HJ1.out; have := HK2.out; omega⟩, by repeat (first | exact Drawn0.refl _ | apply Drawn0.step)⟩
              ·
               rw [if_neg c36] at H; have c36b0 : ((bt a0 x15_2) == 46) = false := beq_eq_false_iff_ne.mpr c36; have c36b1 : ((bt a0 x15_2) != 46) = true := bne_iff_ne.mpr c36; obtain rfl := Option.some.inj H; have p8 : 0 ≤ (x15_2 : Int) := of_decide_eq_true (by first | (with_reducible assumption) | assumption); have q8 : x15_2 < (a0.size : Int) := of_decide_eq_true (by first | (with_reducible assumption) | assumption); have hx8 := bt_at a0 x15_2; replace p8 := eq_true p8; replace q8 := eq_true q8; go_wp2; go_ret
               exact ⟨by first | rfl | (simp; done) | (simp [*]; done), by repeat (first | exact Drawn0.refl _ | apply Drawn0.step)⟩
           ·
            rw [if_neg c33] at H; have c33b0 : decide (48 ≤ (bt a0 x15_2)) = false := decide_eq_false c33; clear c33; by_cases c37 : (bt a0 x15_2) = 45
            ·
             rw [if_pos c37] at H; have c37b0 : ((bt a0 x15_2) == 45) = true := beq_iff_eq.mpr c37; have c37b1 : ((bt a0 x15_2) != 45) = false := bne_eq_false_iff_eq.mpr c37; clear c37; have H' := Aside0.mk H; clear H; have p8 : 0 ≤ (x15_2 : Int) := of_decide_eq_true (by first | (with_reducible assumption) | assumption); have q8 : x15_2 < (a0.size : Int) := of_decide_eq_true (by first | (with_reducible assumption) | assumption); have hx8 := bt_at a0 x15_2; replace p8 := eq_true p8; replace q8 := eq_true q8; go_wp2; go_roundg k2
             case measure => have := HJ1.out; have := HK2.out; omega
             case rel => exact ⟨(wrap64 (x15_2 + 1)), (by first | rfl | (simp; done) | (simp [*]; done)), H', ⟨by have := HJ1.out; have := HK2.out; omega⟩, by repeat (first | exact Drawn0.refl _ | apply Drawn0.step)⟩
            ·
             rw [if_neg c37] at H; have c37b0 : ((bt a0 x15_2) == 45) = false := beq_eq_false_iff_ne.mpr c37; have c37b1 : ((bt a0 x15_2) != 45) = true := bne_iff_ne.mpr c37; by_cases c38 : ((bt a0 x15_2) = 46)
             ·
              rw [if_pos c38] at H; have c38b0 : ((bt a0 x15_2) == 46) = true := beq_iff_eq.mpr c38; have c38b1 : ((bt a0 x15_2) != 46) = false := bne_eq_false_iff_eq.mpr c38; clear c38; have H' := Aside0.mk H; clear H; have p8 : 0 ≤ (x15_2 : Int) := of_decide_eq_true (by first | (with_reducible assumption) | assumption); have q8 : x15_2 < (a0.size : Int) := of_decide_eq_true (by first | (with_reducible assumption) | assumption); have hx8 := bt_at a0 x15_2; replace p8 := eq_true p8; replace q8 := eq_true q8; go_wp2; go_roundg k2
              case measure => have := HJ1.out; have := HK2.out; omega
              case rel => exact ⟨(wrap64 (x15_2 + 1)), (by first | rfl | (simp; done) | (simp [*]; done)), H', ⟨by have := HJ1.out; have := HK2.out; omega⟩, by repeat (first | exact Drawn0.refl _ | apply Drawn0.step)⟩
             ·
              rw [if_neg c38] at H; have c38b0 : ((bt a0 x15_2) == 46) = false := beq_eq_false_iff_ne.mpr c38; have c38b1 : ((bt a0 x15_2) != 46) = true := bne_iff_ne.mpr c38; obtain rfl := Option.some.inj H; have p8 : 0 ≤ (x15_2 : Int) := of_decide_eq_true (by first | (with_reducible assumption) | assumption); have q8 : x15_2 < (a0.size : Int) := of_decide_eq_true (by first | (with_reducible assumption) | assumption); have hx8 := bt_at a0 x15_2; replace p8 := eq_true p8; replace q8 := eq_true q8; go_wp2; go_ret
              exact ⟨by first | rfl | (simp; done) | (simp [*]; done), by repeat (first | exact Drawn0.refl _ | apply Drawn0.step)⟩
        · rw [if_neg c7] at H; exact absurd H (by simp)
       · rw [if_neg c6] at H; exact absurd H (by simp)
      ·
       rw [if_neg c5] at H; have c5b0 : decide (x15_2 < (a0.size : Int)) = false := decide_eq_false c5; clear c5; obtain rfl := Option.some.inj H; go_wp2; go_ret
       exact ⟨by first | rfl | (simp; done) | (simp [*]; done), by repeat (first | exact Drawn0.refl _ | apply Drawn0.step)⟩
def profile_measure.f (a0 : Int) : Option (Bool) := if a0 ≥ 0 then (some (decide (a0 ≤ 100000))) else (some false)
set_option maxHeartbeats 8000000 in
set_option maxRecDepth 100000 in
theorem profile_measure.calls (a0 : Int) (r : Bool) (w : World) (h : profile_measure.f a0 = some r) :
  Calls Tryd.prog 57 #[.int .i64 a0] w fun e w' => e = .returned (.bool r) ∧ Drawn0 w w' := by
 have H : (if a0 ≥ 0 then (some (decide (a0 ≤ 100000))) else (some false)) = some r := h; clear h; by_cases c2 : a0 ≥ 0
 ·
  rw [if_pos c2] at H; have c2b0 : decide (0 ≤ a0) = true := decide_eq_true c2; clear c2; obtain rfl := Option.some.inj H; go_enter Tryd.func57, Tryd.ntmps57
  go_wp2; go_ret
  exact ⟨by first | rfl | (simp; done) | (simp [*]; done), by repeat (first | exact Drawn0.refl _ | apply Drawn0.step)⟩
 ·
  rw [if_neg c2] at H; have c2b0 : decide (0 ≤ a0) = false := decide_eq_false c2; clear c2; obtain rfl := Option.some.inj H; go_enter Tryd.func57, Tryd.ntmps57
  go_wp2; go_ret
  exact ⟨by first | rfl | (simp; done) | (simp [*]; done), by repeat (first | exact Drawn0.refl _ | apply Drawn0.step)⟩
def profile_Check_1.f (a0_0 : Int) (a0_1 : Int) : Option (Bool) := (profile_measure.f a0_0).bind fun t102 => (if t102 = true then ((profile_measure.f a0_1).bind fun t103 => (some (!t103))) else (some true))
set_option maxHeartbeats 8000000 in
set_option maxRecDepth 100000 in
theorem profile_Check_1.calls (a0_0 : Int) (a0_1 : Int) (r : Bool) (w : World) (h : profile_Check_1.f a0_0 a0_1 = some r) :
  Calls Tryd.prog 56 #[.agg #[.int .i64 a0_0, .int .i64 a0_1]] w fun e w' => e = .returned (.bool r) ∧ Below w.heap.size w w' := by
 have hu46 := Tryd.underlying46; have HB := Aside0.mk (Below.refl w.heap.size w); have H : ((profile_measure.f a0_0).bind fun t102 => (if t102 = true then ((profile_measure.f a0_1).bind fun t103 => (some (!t103))) else (some true))) = some r := h; clear h; replace H := Option.bind_eq_some_iff.mp H; obtain ⟨t102, A20, H⟩ := H; replace H : (if t102 = true then ((profile_measure.f a0_1).bind fun t103 => (some (!t103))) else (some true)) = some r := H; have A2 := Aside0.mk A20; clear A20; by_cases c3 : t102 = true
 ·
  subst c3; have H1 : ((profile_measure.f a0_1).bind fun t103 => (some (!t103))) = some r := by rw [if_pos rfl] at H; exact H
  clear H; have H := H1; clear H1; replace H := Option.bind_eq_some_iff.mp H; obtain ⟨t103, A40, H⟩ := H; replace H : (some (!t103)) = some r := H; have A4 := Aside0.mk A40; clear A40; obtain rfl := Option.some.inj H; go_enter Tryd.func56, Tryd.ntmps56
  go_wp2_with (first | ((with_reducible refine gate_dst (N := 1) rfl ?_); refine box_event ?hg (N := 1) ?hd (cs := #[.int .i64 a0_0, .int .i64 a0_1]) (t := 46) ?hr ?_; (case hd => rfl); (case hg => rfl); (case hr => first | (go_simp; done) | (go_simp; rfl)); intro gb101 hg w5 hbox hb; have n0_ := Aside0.mk (below_step (by repeat (first | (with_reducible first | exact HB.out | apply below_alloc | apply pw_below_drewN | apply below_drew1) | exact HB.out)) hb); have n1_ := Aside0.mk (hbox); have n2_ := Aside0.mk ((by rw [hg]; exact (below_size (by repeat (first | (with_reducible first | exact HB.out | apply below_alloc | apply pw_below_drewN | apply below_drew1) | exact HB.out))) : w.heap.size ≤ gb101)); have n3_ := Aside0.mk ((by rw [hg]; exact (below_size (by repeat (first | (with_reducible first | exact HB.out | apply below_alloc | apply pw_below_drewN | apply below_drew1) | exact HB.out))) : w.heap.size ≤ gb101)); clear HB; have HB := n0_; have BK101 := n1_; have GW101 := n2_; have GE101 := n3_; clear n0_ n1_ n2_ n3_; clear hb hbox hg; have hcz6_0 : w5.cell? ⟨gb101, 0, none⟩ = some (.int .i64 a0_0) := (blk_cell BK101.out 0).trans rfl; have hcz6_1 : w5.cell? ⟨gb101, 1, none⟩ = some (.int .i64 a0_1) := (blk_cell BK101.out 1).trans rfl; have hfz6_0 := blk_frozen BK101.out 0; have hfz6_1 := blk_frozen BK101.out 1) | ((with_reducible refine gate_callee (f := 57) rfl ?_); refine goesL_ (some 5) rfl rfl Tryd.func57 (by kernel_rfl) rfl #[.int .i64 a0_0] rfl (by (try simp only [List.map_toArray, List.map_cons, List.map_nil]); first | done | rfl | (simp only [List.length_drop, List.length_take]; rfl)) ?_; (with_reducible refine (profile_measure.calls a0_0 true _ A2.out).mono ?_); rintro e w' ⟨rfl, ⟨nd, rfl⟩⟩; refine ⟨_, rfl, ?_⟩) | (go_at_call 57; (with_reducible refine (profile_measure.calls a0_1 t103 _ A4.out).mono ?_); rintro e w' ⟨rfl, ⟨nd, rfl⟩⟩))
  go_ret
  exact ⟨by first | rfl | (simp [errW_none, errW_some] <;> rfl) | (simp [*, errW_none, errW_some] <;> rfl), by repeat (first | (with_reducible first | exact HB.out | apply below_alloc | apply pw_below_drewN | apply below_drew1 | refine below_set ?_ GE101.out) | exact HB.out)⟩
 ·
  replace c3 := Bool.eq_false_iff.mpr c3; subst c3; have H1 : (some true) = some r := by rw [if_neg (show ¬ (false = true) by decide)] at H; exact H
  clear H; have H := H1; clear H1; obtain rfl := Option.some.inj H; go_enter Tryd.func56, Tryd.ntmps56
  go_wp2_with (first | ((with_reducible refine gate_dst (N := 1) rfl ?_); refine box_event ?hg (N := 1) ?hd (cs := #[.int .i64 a0_0, .int .i64 a0_1]) (t := 46) ?hr ?_; (case hd => rfl); (case hg => rfl); (case hr => first | (go_simp; done) | (go_simp; rfl)); intro gb101 hg w7 hbox hb; have n0_ := Aside0.mk (below_step (by repeat (first | (with_reducible first | exact HB.out | apply below_alloc | apply pw_below_drewN | apply below_drew1) | exact HB.out)) hb); have n1_ := Aside0.mk (hbox); have n2_ := Aside0.mk ((by rw [hg]; exact (below_size (by repeat (first | (with_reducible first | exact HB.out | apply below_alloc | apply pw_below_drewN | apply below_drew1) | exact HB.out))) : w.heap.size ≤ gb101)); have n3_ := Aside0.mk ((by rw [hg]; exact (below_size (by repeat (first | (with_reducible first | exact HB.out | apply below_alloc | apply pw_below_drewN | apply below_drew1) | exact HB.out))) : w.heap.size ≤ gb101)); clear HB; have HB := n0_; have BK101 := n1_; have GW101 := n2_; have GE101 := n3_; clear n0_ n1_ n2_ n3_; clear hb hbox hg; have hcz8_0 : w7.cell? ⟨gb101, 0, none⟩ = some (.int .i64 a0_0) := (blk_cell BK101.out 0).trans rfl; have hcz8_1 : w7.cell? ⟨gb101, 1, none⟩ = some (.int .i64 a0_1) := (blk_cell BK101.out 1).trans rfl; have hfz8_0 := blk_frozen BK101.out 0; have hfz8_1 := blk_frozen BK101.out 1) | ((with_reducible refine gate_callee (f := 57) rfl ?_); refine goesL_ (some 5) rfl rfl Tryd.func57 (by kernel_rfl) rfl #[.int .i64 a0_0] rfl (by (try simp only [List.map_toArray, List.map_cons, List.map_nil]); first | done | rfl | (simp only [List.length_drop, List.length_take]; rfl)) ?_; (with_reducible refine (profile_measure.calls a0_0 false _ A2.out).mono ?_); rintro e w' ⟨rfl, ⟨nd, rfl⟩⟩; refine ⟨_, rfl, ?_⟩))
  go_ret
  exact ⟨by first | rfl | (simp [errW_none, errW_some] <;> rfl) | (simp [*, errW_none, errW_some] <;> rfl), by repeat (first | (with_reducible first | exact HB.out | apply below_alloc | apply pw_below_drewN | apply below_drew1 | refine below_set ?_ GE101.out) | exact HB.out)⟩
def profile_Check_2.f (a0_0 : Int) (a0_1 : Int) : Option (Bool) := some (a0_1 == 0)
set_option maxHeartbeats 8000000 in
set_option maxRecDepth 100000 in
theorem profile_Check_2.calls (a0_0 : Int) (a0_1 : Int) (r : Bool) (w : World) (h : profile_Check_2.f a0_0 a0_1 = some r) :
  Calls Tryd.prog 59 #[.agg #[.int .i64 a0_0, .int .i64 a0_1]] w fun e w' => e = .returned (.bool r) ∧ Below w.heap.size w w' := by
 have hu46 := Tryd.underlying46; have HB := Aside0.mk (Below.refl w.heap.size w); have H : (some (a0_1 == 0)) = some r := h; clear h; obtain rfl := Option.some.inj H; go_enter Tryd.func59, Tryd.ntmps59
 go_wp2_with (first | ((with_reducible refine gate_dst (N := 1) rfl ?_); refine box_event ?hg (N := 1) ?hd (cs := #[.int .i64 a0_0, .int .i64 a0_1]) (t := 46) ?hr ?_; (case hd => rfl); (case hg => rfl); (case hr => first | (go_simp; done) | (go_simp; rfl)); intro gb104 hg w2 hbox hb; have n0_ := Aside0.mk (below_step (by repeat (first | (with_reducible first | exact HB.out | apply below_alloc | apply pw_below_drewN | apply below_drew1) | exact HB.out)) hb); have n1_ := Aside0.mk (hbox); have n2_ := Aside0.mk ((by rw [hg]; exact (below_size (by repeat (first | (with_reducible first | exact HB.out | apply below_alloc | apply pw_below_drewN | apply below_drew1) | exact HB.out))) : w.heap.size ≤ gb104)); have n3_ := Aside0.mk ((by rw [hg]; exact (below_size (by repeat (first | (with_reducible first | exact HB.out | apply below_alloc | apply pw_below_drewN | apply below_drew1) | exact HB.out))) : w.heap.size ≤ gb104)); clear HB; have HB := n0_; have BK104 := n1_; have GW104 := n2_; have GE104 := n3_; clear n0_ n1_ n2_ n3_; clear hb hbox hg; have hcz3_0 : w2.cell? ⟨gb104, 0, none⟩ = some (.int .i64 a0_0) := (blk_cell BK104.out 0).trans rfl; have hcz3_1 : w2.cell? ⟨gb104, 1, none⟩ = some (.int .i64 a0_1) := (blk_cell BK104.out 1).trans rfl; have hfz3_0 := blk_frozen BK104.out 0; have hfz3_1 := blk_frozen BK104.out 1))
 go_ret
 exact ⟨by first | rfl | (simp [errW_none, errW_some] <;> rfl) | (simp [*, errW_none, errW_some] <;> rfl), by repeat (first | (with_reducible first | exact HB.out | apply below_alloc | apply pw_below_drewN | apply below_drew1 | refine below_set ?_ GE104.out) | exact HB.out)⟩
end Go.Proofs.YtnhmlneebnkjcaaDoor.Pr
namespace Go.Proofs.YtnhmlneebnkjcaaDoor.X
open Go Go.RowKit Go.Lib Go.Proofs Go.Shelf
section
variable {F : Fence} {n : Nat} {P : Program}
/-- What abides the turn of block b, and new blocks. -/
def AbBox {β : Type} (b : Nat) (J : β → World → Prop) : Prop := ∀ s W W', J s W → W.grownBy W' (some b) → J s W'
/-- What abides the turn of block b, and of whatever is no cells and lies at or beyond B. -/
def AbFrom {β : Type} (B b : Nat) (I : β → World → Prop) : Prop :=
  ∀ s W W' row, I s W → W.grownBy W' row → (∀ r, row = some r → r = b ∨ (B ≤ r ∧ ∃ o : Obj, W.heap[r]? = some o ∧ o.isCells = false)) → I s W'
/-- An iterator's contract: it hands out L, in its order; a round that goes on leaves its box as it was. -/
def SeqBox {α : Type} (F : Fence) (n : Nat) (P : Program) (g : Nat) (lb : Array Value) (encs : α → Array Value) (b : Nat) (G : World → Prop) (L : List α) (w : World) : Prop :=
  ∀ (l : Nat) (J Jx : List α → World → Prop) (W : World), Below w.heap.size w W → (∀ pre W1, J pre W1 → G W1) → AbBox b J → AbBox b Jx →
    (∀ pre x W1, J pre W1 → pre ++ [x] <+: L → YieldAt F (n - 1) P l (encs x) W1 fun e W' =>
      (e = .returned (.bool true) ∧ J (pre ++ [x]) W' ∧ W'.heap[b]? = W1.heap[b]?) ∨ (e = .returned (.bool false) ∧ Jx (pre ++ [x]) W')) →
    J [] W →
    CallsIn F n P g (#[.func (.yield l) #[] #[]] ++ lb) W fun e W' => (∃ v, e = .returned v) ∧ (J L W' ∨ (∃ pre, pre <+: L ∧ Jx pre W'))
/-- A loop's record in its three states. -/
def recAt (fn : FuncId) (tmps : Array Value) (ps : Array Tmp) (assign body : Code) (D : Nat) (st : LoopState) (pe : Option Code) : Loop := { state := st, pending := pe, fn, tmps, params := ps, assign, body, defers := D }
/-- How a round may be left. -/
def boxPost {α : Type} (B b : Nat) (I : List α → World → Prop) (Ix : List α → World → Prop) (xs : List α) (W : World) : Exit → Act → World → Prop
  | .normal, _, W' => KeepsFrom B W W' ∧ W'.heap[b]? = W.heap[b]? ∧ I xs W'
  | .ret, _, W' => KeepsFrom B W W' ∧ Ix xs W'
  | _, _, _ => False
end
end Go.Proofs.YtnhmlneebnkjcaaDoor.X
namespace Go.Proofs.YtnhmlneebnkjcaaDoor.X
open Go Go.RowKit Go.Lib Go.Proofs Go.Shelf
section
variable {F : Fence} {n : Nat} {P : Program}
/-- The statement, where a round's variables lie in boxes of their own. -/
theorem wpIn_rangeFunc_box2 {α : Type} {g : Operand} {ps : Array Tmp} {assign body : Code} {Q : Exit → Act → World → Prop} {a : Act} {w : World}
    (hro : F.round = none) (h1 : 1 ≤ n) {gf : Nat} {lb : Array Value} (hg : a.eval g = .func (.func gf) #[] lb) (hFg : F.fn gf) (eg : ∀ args w, (callFunc gf args).run P w = .ok (.enter gf args) w)
    {encs : α → Array Value} {b : Nat} {G : World → Prop} {L : List α} {w0 : World} (hseq : SeqBox F (n - 1) P gf lb encs b G L w0) (hbw : b < w.heap.size)
    (hb0 : Below w0.heap.size w0 w) (hps : ∀ x, (encs x).size = ps.size)
    (I Ix : List α → World → Prop) (hIG : ∀ pre W, I pre W → G W) (hI : AbFrom w.heap.size b I) (hIx : AbFrom w.heap.size b Ix) (h0 : I [] w) (a₁ : α → Nat → Act) (M : α → Nat → List α → World → Prop) (hM : ∀ x p, AbFrom w.heap.size b (M x p))
    (hassign : ∀ (l : Nat) (pre : List α) (x : α) (W : World) (K : Act → World → Prop), I pre W → pre ++ [x] <+: L → (∀ p W1, M x p pre W1 → KeepsFrom w.heap.size W W1 → W1.heap[b]? = W.heap[b]? → K (a₁ x p) W1) →
      assign.wpIn (F.inRound l) (n - 1 - 1) P (Exit.then K (fun _ _ _ => False)) { tmps := (ps.zip (encs x)).foldl (fun t (p, v) => t.setIfInBounds p v) a.tmps, defers := [] } W)
    (hbody : ∀ (l : Nat) (pre : List α) (x : α) (p : Nat) (W : World), M x p pre W → pre ++ [x] <+: L → body.wpIn (F.inRound l) (n - 1 - 1) P (boxPost w.heap.size b I Ix (pre ++ [x]) W) (a₁ x p) W)
    (hdone : ∀ (W : World), I L W → W.heap[w.heap.size]? = some (.deferred (some [])) → Q .normal { a with defers := { target := .collected w.heap.size, args := #[] } :: a.defers } W)
    (hstop : ∀ (pre : List α) (W : World), pre <+: L → Ix pre W → W.heap[w.heap.size]? = some (.deferred (some [])) → Code.ret.wpIn F n P Q { a with defers := { target := .collected w.heap.size, args := #[] } :: a.defers } W) :
    (Code.rangeFunc g ps assign body).wpIn F n P Q a w := by
  refine wpIn_rangeFunc fun fn hfn => ?_
  rw [hro]
  let D := w.heap.size
  let rc := recAt fn a.tmps ps assign body D
  let W1 := (w.alloc (.deferred (some []))).alloc (.loop (rc .ready none))
  have s1 : (w.alloc (.deferred (some []))).heap.size = D + 1 := World.size_alloc ..
  have dW1 : W1.heap[D]? = some (.deferred (some [])) := (Below.heap_alloc _ _ _ (by rw [s1]; omega)).trans (World.alloc_heap_new w _)
  have lW1 : W1.heap[D + 1]? = some (.loop (rc .ready none)) := by have := World.alloc_heap_new (w.alloc (.deferred (some []))) (.loop (rc .ready none)); rwa [s1] at this
  have gW1 : w.grownBy W1 none := ⟨rfl, rfl, rfl, by show w.heap.size ≤ W1.heap.size; have := (Array.getElem?_eq_some_iff.1 lW1).1; omega, fun k hk _ => ((Below.heap_alloc _ _ _ (by rw [s1]; omega)).trans (Below.heap_alloc _ _ _ hk))⟩
  have bk : ∀ (st : LoopState) (pe : Option Code) {A B : World}, A.heap[D + 1]? = some (.loop (rc st pe)) → A.heap[D]? = some (.deferred (some [])) → A.grownBy B (some b) → B.heap[D + 1]? = some (.loop (rc st pe)) ∧ B.heap[D]? = some (.deferred (some [])) :=
    fun st pe A B h2 h3 hg2 => ⟨(hg2.block _ (Array.getElem?_eq_some_iff.1 h2).1 (fun e => by have := Option.some.inj e; omega)).trans h2, (hg2.block _ (Array.getElem?_eq_some_iff.1 h3).1 (fun e => by have := Option.some.inj e; omega)).trans h3⟩
  have turn : ∀ {J : List α → World → Prop}, AbFrom D b J → ∀ {s A} (o o' : Obj), A.heap[D + 1]? = some o → o.isCells = false → J s A → J s (A.putObj (D + 1) o') := fun hJ s A o o' h2 h3 hj =>
    hJ s A _ (some (D + 1)) hj (grownBy_putObj' A (D + 1) o') (fun r e => .inr ⟨by have := Option.some.inj e; omega, o, by have := Option.some.inj e; subst this; exact h2, h3⟩)
  have one : ∀ {J : List α → World → Prop}, AbFrom D b J → AbBox b J := fun hJ s A B hj hg2 => hJ s A B (some b) hj hg2 (fun r e => .inl (Option.some.inj e).symm)
  refine ⟨D + 1, [{ target := .collected D, args := #[] }], W1, { target := .fn (.func gf) lb, args := #[.func (.yield (D + 1)) #[] #[]] }, W1, gf, #[.func (.yield (D + 1)) #[] #[]] ++ lb, W1,
    run_enterLoop_outer _ _ _ _ _, ?_, ?_, ?_, fun _ => h1, ?_⟩
  · simp only [resolve, hg]
    simp [go_sem]
  · intro f' hf'
    simp [Target.leads] at hf'
    exact hf' ▸ hFg
  · simp [invoke, go_sem, eg]
  refine (hseq (D + 1) (fun pre W => I pre W ∧ W.heap[D + 1]? = some (.loop (rc .ready none)) ∧ W.heap[D]? = some (.deferred (some [])))
    (fun pre W => Ix pre W ∧ W.heap[D + 1]? = some (.loop (rc .done (some .ret))) ∧ W.heap[D]? = some (.deferred (some []))) W1 ?_ (fun pre W h => hIG pre W h.1) ?_ ?_ ?_ ⟨hI [] w W1 none h0 gW1 (fun r e => by cases e), lW1, dW1⟩).mono ?_
  · exact hb0.trans ⟨gW1.os, gW1.tape, gW1.output, gW1.size, fun k hk => gW1.block k (Nat.lt_of_lt_of_le hk hb0.size) (by simp)⟩
  · exact fun s A B hs hg2 => ⟨one hI s A B hs.1 hg2, bk _ _ hs.2.1 hs.2.2 hg2⟩
  · exact fun s A B hs hg2 => ⟨one hIx s A B hs.1 hg2, bk _ _ hs.2.1 hs.2.2 hg2⟩
  · rintro pre x W ⟨hi, hl, hd⟩ hlen
    refine ⟨fn, _, assign, body, run_yield (P := P) (args := encs x) hl (hps x), roundIn_of_wpIn hfn (hassign _ pre x W _ hi hlen (fun p W1 hm hk0 hbx0 => ?_))⟩
    have hl1 := hk0.same _ _ (by omega) hl rfl
    have hd1 := hk0.same _ _ (Nat.le_refl _) hd rfl
    refine ⟨_, run_beginRound hl1 rfl, ?_⟩
    have hlt := (Array.getElem?_eq_some_iff.1 hl1).1
    have hl2 : (W1.putObj (D + 1) (.loop (rc .busy none))).heap[D + 1]? = some (.loop (rc .busy none)) := World.putObj_heap_same hlt
    have hd2 : (W1.putObj (D + 1) (.loop (rc .busy none))).heap[D]? = some (.deferred (some [])) := (World.putObj_heap_other (by omega)).trans hd1
    have hb2 : (W1.putObj (D + 1) (.loop (rc .busy none))).heap[b]? = W.heap[b]? := (World.putObj_heap_other (by omega)).trans hbx0
    refine wpIn_mono (hbody _ pre x p _ (turn (hM x p) _ _ hl1 rfl hm) hlen) ?_
    rintro e a3 W3 hp
    cases e with
    | normal =>
      obtain ⟨hk, hbx, hi3⟩ := hp
      have hl3 := hk.same _ _ (by omega) hl2 rfl
      have hd3 := hk.same _ _ (Nat.le_refl _) hd2 rfl
      exact ⟨_, _, run_endRound none hl3, .inl ⟨rfl, ⟨turn hI _ _ hl3 rfl hi3, World.putObj_heap_same (Array.getElem?_eq_some_iff.1 hl3).1, (World.putObj_heap_other (by omega)).trans hd3⟩, ((World.putObj_heap_other (by omega)).trans hbx).trans hb2⟩⟩
    | ret =>
      obtain ⟨hk, hi3⟩ := hp
      have hl3 := hk.same _ _ (by omega) hl2 rfl
      have hd3 := hk.same _ _ (Nat.le_refl _) hd2 rfl
      exact ⟨_, _, run_endRound (some .ret) hl3, .inr ⟨rfl, turn hIx _ _ hl3 rfl hi3, World.putObj_heap_same (Array.getElem?_eq_some_iff.1 hl3).1, (World.putObj_heap_other (by omega)).trans hd3⟩⟩
    | exit id => exact hp.elim
    | goto t => exact hp.elim
    | panic ch => exact hp.elim
    | outgrown => exact hp.elim
  · rintro e W2 ⟨⟨v, rfl⟩, (⟨hi, hl, hd⟩ | ⟨pre, hSp, hi, hl, hd⟩)⟩
    · exact ⟨none, _, run_endLoop hl (by simp [rc, recAt]), hdone _ (turn hI _ _ hl rfl hi) ((World.putObj_heap_other (by omega)).trans hd)⟩
    · exact ⟨some .ret, _, run_endLoop hl (by simp [rc, recAt]), hstop pre _ hSp (turn hIx _ _ hl rfl hi) ((World.putObj_heap_other (by omega)).trans hd)⟩
end
end Go.Proofs.YtnhmlneebnkjcaaDoor.X
namespace Go.Proofs.YtnhmlneebnkjcaaDoor.X
open Go Go.RowKit Go.Lib Go.Proofs Go.Shelf Go.Proofs.YtnhmlneebnkjcaaDoor.Pr Go.Proofs.YtnhmlneebnkjcaaDoorW.PrintWords Go.Proofs.YtnhmlneebnkjcaaDoorW.PrintLast Go.Proofs.YtnhmlneebnkjcaaDoorW.PrintMore
attribute [local go_sem] Oper.semAt_some
/-- The neighbours. -/
def nbs (l : List S46) : List (S46 × S46) := l.zip l.tail
def nencs (x : S46 × S46) : Array Value := #[.agg #[.int .i64 x.1.f0, .int .i64 x.1.f1], .agg #[.int .i64 x.2.f0, .int .i64 x.2.f1]]
theorem nbs_len (l : List S46) : (nbs l).length = l.length - 1 := by unfold nbs; rw [List.length_zip, List.length_tail]; omega
theorem nbs_take {l : List S46} {i : Nat} (h0 : 1 ≤ i) (h1 : i < l.length) (hl : l.length < 4294967296) : (nbs l).take i = (nbs l).take (i - 1) ++ [(rd_T46 l (wrap64 ((i : Int) - 1)), rd_T46 l (i : Int))] := by
  have h : i - 1 < (nbs l).length := by rw [nbs_len]; omega
  have w1 : wrap64 ((i : Int) - 1) = (i : Int) - 1 := by unfold wrap64; omega
  obtain ⟨j, rfl⟩ : ∃ j, i = j + 1 := ⟨i - 1, by omega⟩
  rw [w1, Nat.add_sub_cancel, List.take_add_one, List.getElem?_eq_getElem (by rw [nbs_len]; omega)]
  have e1 : rd_T46 l (((j + 1 : Nat) : Int) - 1) = l[j]'(by omega) := by
    unfold rd_T46
    rw [show ((((j + 1 : Nat) : Int) - 1)).toNat = j from by omega, List.getD_eq_getElem?_getD, List.getElem?_eq_getElem (by omega)]
    rfl
  have e2 : rd_T46 l ((j + 1 : Nat) : Int) = l[j + 1]'h1 := by
    unfold rd_T46
    rw [Int.toNat_natCast, List.getD_eq_getElem?_getD, List.getElem?_eq_getElem h1]
    rfl
  rw [e1, e2]
  unfold nbs
  simp [List.getElem_zip, List.getElem_tail]
theorem grown_drew (W : World) (b : Nat) : W.grownBy W.drew (some b) := ⟨rfl, rfl, rfl, Nat.le_refl _, fun _ _ _ => rfl⟩
theorem y_step {e : Ending} {X Y : Prop} (h : (e = .returned (.bool true) ∧ X) ∨ (e = .returned (.bool false) ∧ Y)) : ∃ bo : Bool, e = .returned (.bool bo) ∧ ((bo = true ∧ X) ∨ (bo = false ∧ Y)) := by
  rcases h with ⟨rfl, h⟩ | ⟨rfl, h⟩
  · exact ⟨true, rfl, .inl ⟨rfl, h⟩⟩
  · exact ⟨false, rfl, .inr ⟨rfl, h⟩⟩
def intV : Value → Int
  | .int _ i => i
  | _ => 0
theorem st_meas {j n : Nat} (hj : j < n) : n - (intV (.int .i64 ((j : Int) + 1))).toNat < n - (intV (.int .i64 (j : Int))).toNat := by
  show n - ((j : Int) + 1).toNat < n - ((j : Int)).toNat
  omega
set_option maxRecDepth 100000 in
set_option maxHeartbeats 2000000 in
theorem staves1_in (l b : Nat) (xs : List S46) (A : Option Addr) (c : Nat) (hxs : xs.length < 4294967296) (J Jx : List (S46 × S46) → World → Prop) (W : World) (hC : ∀ pre W, J pre W → Kd.C k46 W A xs.length xs)
    (hJ : AbBox b J) (hJx : AbBox b Jx) (hbx : Boxed W b 25 (.slice A xs.length c))
    (hY : ∀ pre x W1, J pre W1 → pre ++ [x] <+: nbs xs → YieldAt Fence.wide (4 - 1) Tryd.prog l (nencs x) W1 fun e W' =>
      (e = .returned (.bool true) ∧ J (pre ++ [x]) W' ∧ W'.heap[b]? = W1.heap[b]?) ∨ (e = .returned (.bool false) ∧ Jx (pre ++ [x]) W'))
    (h0 : J [] W) :
    CallsIn Fence.wide 4 Tryd.prog 71 #[.func (.yield l) #[] #[], .pointer (some ⟨b, 0, none⟩)] W fun e W' => (∃ v, e = .returned v) ∧ (J (nbs xs) W' ∨ (∃ pre, pre <+: nbs xs ∧ Jx pre W')) := by
  refine callsIn_of_wp Tryd.func71 rfl trivial ?_ rfl
  simp only [Tryd.ntmps71, List.size_toArray, List.length_cons, List.length_nil, Nat.reduceAdd, Nat.reduceSub, Array.replicate_succ, Array.replicate_zero, List.push_toArray, List.append_toArray, List.nil_append, List.cons_append]
  gi_wp2
  gi_loopw [3] (fun v3 wr => ∃ (i : Nat), v3 = .int .i64 (i : Int) ∧ 1 ≤ i ∧ Boxed wr b 25 (.slice A xs.length c) ∧ J ((nbs xs).take (i - 1)) wr)
    (fun v3 wr => xs.length - (intV v3).toNat)
  case atStart => exact ⟨1, rfl, Nat.le_refl _, hbx, h0⟩
  case round =>
    obtain ⟨i, rfl, hi, hbw, hJi⟩ := hrel
    have hc := hbw.cell
    have hf := hbw.frozen
    by_cases hz : i < xs.length
    · have tE : decide ((i : Int) < (xs.length : Int)) = true := decide_eq_true (by omega)
      have hCw := hC _ _ hJi
      have w1 : wrap64 ((i : Int) - 1) = (i : Int) - 1 := by unfold wrap64; omega
      have p0 : 0 ≤ wrap64 ((i : Int) - 1) := by rw [w1]; omega
      have q0 : wrap64 ((i : Int) - 1) < (xs.length : Int) := by rw [w1]; omega
      have p1 : 0 ≤ (i : Int) := by omega
      have q1 : (i : Int) < (xs.length : Int) := by omega
      obtain ⟨ad, rfl, x0, x1⟩ := at_T46 hCw (wrap64 ((i : Int) - 1)) p0 q0
      obtain ⟨ad', e', y0, y1⟩ := at_T46 hCw (i : Int) p1 q1
      obtain rfl : ad = ad' := Option.some.inj e'
      rw [Int.toNat_natCast] at y0 y1
      have w2 : (wrap64 ((i : Int) - 1)).toNat = i - 1 := by rw [w1]; omega
      rw [w2] at x0 x1
      clear e'
      have hpre : (nbs xs).take (i - 1) ++ [(rd_T46 xs (wrap64 ((i : Int) - 1)), rd_T46 xs (i : Int))] <+: nbs xs := by
        rw [← nbs_take hi hz hxs]; exact List.take_prefix _ _
      have hJd := hJ _ _ wr.drew hJi (grown_drew wr b)
      have hbd : Boxed wr.drew b 25 (.slice (some ad) xs.length c) := hbw
      obtain ⟨fn, tmps, assign, body, hy, hR⟩ := hY _ _ wr.drew hJd hpre
      dsimp only [nencs] at hy
      have hstep := nbs_take hi hz hxs
      generalize rd_T46 xs (wrap64 ((i : Int) - 1)) = P0 at *
      generalize rd_T46 xs (i : Int) = P1 at *
      clear w1 hC hCw hY
      replace p0 := eq_true p0
      replace q0 := eq_true q0
      replace p1 := eq_true p1
      replace q1 := eq_true q1
      gi_wp2
      have w1w := i64_w ((i : Int) - 1)
      gi_region_with (refine hR.mono ?_; intro e W3 h3; obtain ⟨bo, rfl, h4⟩ := y_step h3; clear h3)
      all_goals
        rcases h4 with ⟨rfl, hJ3, hk3⟩ | ⟨rfl, hJx3⟩
        · have hb3 : Boxed W3 b 25 (.slice (some ad) xs.length c) := hk3.trans hbd
          gi_wp2
          go_roundw
          case rel => exact ⟨i + 1, rfl, by omega, hb3, by rw [show i + 1 - 1 = i from rfl, hstep]; exact hJ3⟩
          case measure => exact st_meas hz
        · gi_wp2
          refine bodyPost_ret (results_none rfl _ _ _) rfl ?_
          exact ⟨⟨_, rfl⟩, .inr ⟨_, hpre, hJx3⟩⟩
    · have tE : decide ((i : Int) < (xs.length : Int)) = false := decide_eq_false (by omega)
      gi_wp2
      go_end0
      have e : (nbs xs).take (i - 1) = nbs xs := List.take_of_length_le (by rw [nbs_len]; omega)
      rw [e] at hJi
      exact ⟨⟨_, rfl⟩, .inl hJi⟩
/-- What 'staves' hands back captures a new box. -/
theorem staves_calls (A : Option Addr) (n c : Nat) (w : World) : CallsIn Fence.wide 4 Tryd.prog 58 #[.slice A n c] w fun e w' => e = .returned (.func (.func 71) #[] #[.pointer (some ⟨w.heap.size, 0, none⟩)]) ∧ w' = w.alloc (.cells #[.slice A n c] 25) := by
  refine callsIn_of_wp Tryd.func58 rfl trivial ?_ rfl
  simp only [Tryd.ntmps58, List.size_toArray, List.length_cons, List.length_nil, Nat.reduceAdd, Nat.reduceSub, Array.replicate_succ, Array.replicate_zero, List.push_toArray, List.append_toArray, List.nil_append, List.cons_append]
  gi_wp2
  go_ret
  exact ⟨rfl, rfl⟩
theorem staves_box (b : Nat) (xs : List S46) (A : Option Addr) (c : Nat) (hxs : xs.length < 4294967296) (w : World) (hbx : Boxed w b 25 (.slice A xs.length c)) :
    SeqBox Fence.wide 4 Tryd.prog 71 #[.pointer (some ⟨b, 0, none⟩)] nencs b (fun W => Kd.C k46 W A xs.length xs) (nbs xs) w := by
  intro l J Jx W hW hG hJ hJx hY h0
  exact staves1_in l b xs A c hxs J Jx W hG hJ hJx ((hW.block b hbx.lt).trans hbx) hY h0
end Go.Proofs.YtnhmlneebnkjcaaDoor.X
namespace Go.Proofs.YtnhmlneebnkjcaaDoor.Pr
open Go.RowKit Go.Proofs.YtnhmlneebnkjcaaDoorW.PrintWords Go.Proofs.YtnhmlneebnkjcaaDoorW.PrintLast Go.Proofs.YtnhmlneebnkjcaaDoorW.PrintMore Go.Proofs.YtnhmlneebnkjcaaDoor.X
attribute [local go_sem] max2_int min2_int max_two min_two max_three min_three max_four min_four   -- for this text's walks alone
set_option linter.unusedVariables false
set_option linter.unusedSimpArgs false
def api_Point_70_at_56.l0 : Nat → List (S46) → Int → Int → Option (Int)
 | 0, _, _, _ => none
 | k + 1, x0, x7, x8 => if x8 < x7 then (if 0 ≤ x8 then (if x8 < (x0.length : Int) then ((profile_Check_1.f ((rd_T46 x0 x8).f0) ((rd_T46 x0 x8).f1)).bind fun t106 => (if t106 = true then (some x8) else (api_Point_70_at_56.l0 k x0 x7 (wrap64 (x8 + 1))))) else (none)) else (none)) else (some (-1))
def api_Point_70_at_56.f (k : Nat) (l0 : List (S46))  : Option (Int) := api_Point_70_at_56.l0 k l0 (l0.length : Int) 0
set_option maxHeartbeats 8000000 in
set_option maxRecDepth 100000 in
theorem api_Point_70_at_56.calls (k : Nat) (A0 : Option Addr) (c0 : Nat) (l0 : List (S46))  (r : Int) (w : World) (hr0 : Kd.C k46 w A0 l0.length l0) (hc0 : l0.length ≤ c0) (h : api_Point_70_at_56.f k l0 = some r) :
  Calls Tryd.prog 70 #[.slice A0 l0.length c0, .func (.func 56) #[] #[]] w fun e w' => e = .returned (.int .i64 r) ∧ Below w.heap.size w w' := by
 have hu46 := Tryd.underlying46; have HR0 := Aside0.mk hr0; have HC0 := Aside0.mk hc0; clear hr0 hc0; have HB := Aside0.mk (Below.refl w.heap.size w); have H : (api_Point_70_at_56.l0 k l0 (l0.length : Int) 0) = some r := h; clear h; have H' := Aside0.mk H; clear H; go_enter Tryd.func70, Tryd.ntmps70
 go_wp2; go_loopg [8] k (fun kq v8 w' => ∃ (x8_1 : Int), v8 = .int .i64 x8_1 ∧ Aside0 (api_Point_70_at_56.l0 kq l0 (l0.length : Int) x8_1 = some r) ∧ Aside0 (kq ≤ k) ∧ Aside0 (Below w.heap.size w w'))
 case atStart => exact ⟨(0), (by first | rfl | (simp; done) | (simp [*]; done)), H', ⟨Nat.le_refl _⟩, ⟨by repeat (first | (with_reducible first | exact HB.out | apply below_alloc | apply pw_below_drewN | apply below_drew1) | exact HB.out)⟩⟩
 case round =>
  clear H'; try clear p2
  obtain ⟨x8_1, rfl, HA, HK1, HB⟩ := hrel
  cases gk with
  | zero => exact absurd HA.out (by simp [api_Point_70_at_56.l0])
  | succ k1 =>
   have H := HA.out; clear HA; simp only [api_Point_70_at_56.l0] at H; by_cases c3 : x8_1 < (l0.length : Int)
   ·
    rw [if_pos c3] at H; have c3b0 : decide (x8_1 < (l0.length : Int)) = true := decide_eq_true c3; clear c3; by_cases c4 : 0 ≤ x8_1
    ·
     rw [if_pos c4] at H; have c4b0 : decide (0 ≤ x8_1) = true := decide_eq_true c4; clear c4; by_cases c5 : x8_1 < (l0.length : Int)
     ·
      rw [if_pos c5] at H; have c5b0 : decide (x8_1 < (l0.length : Int)) = true := decide_eq_true c5; clear c5; replace H := Option.bind_eq_some_iff.mp H; obtain ⟨t106, A60, H⟩ := H; replace H : (if t106 = true then (some x8_1) else (api_Point_70_at_56.l0 k1 l0 (l0.length : Int) (wrap64 (x8_1 + 1)))) = some r := H; have A6 := Aside0.mk A60; clear A60; by_cases c7 : t106 = true
      ·
       subst c7; have H1 : (some x8_1) = some r := by rw [if_pos rfl] at H; exact H
       clear H; have H := H1; clear H1; obtain rfl := Option.some.inj H; have p105 : 0 ≤ (x8_1 : Int) := of_decide_eq_true (by first | (with_reducible assumption) | assumption); have q105 : x8_1 < (l0.length : Int) := of_decide_eq_true (by first | (with_reducible assumption) | assumption); obtain ⟨ad105, e105, hx105_0, hx105_1⟩ := at_T46 HR0.out x8_1 p105 q105; cases e105; replace hx105_0 := (HB.out.cell (World.block_lt_of_cell? w _ hx105_0)).trans hx105_0; replace hx105_1 := (HB.out.cell (World.block_lt_of_cell? w _ hx105_1)).trans hx105_1; replace p105 := eq_true p105; replace q105 := eq_true q105; go_wp2_with (first | (go_at_call 56; (with_reducible refine (profile_Check_1.calls ((rd_T46 l0 x8_1).f0) ((rd_T46 l0 x8_1).f1) true _ A6.out).mono ?_); rintro e w8 ⟨rfl, hb⟩; have n0_ := Aside0.mk (below_step (by repeat (first | (with_reducible first | exact HB.out | apply below_alloc | apply pw_below_drewN | apply below_drew1) | exact HB.out)) hb); clear HB; have HB := n0_; clear n0_; (try clear hb); (try clear hb2); (try clear hk); (try clear hi)))
       go_ret
       exact ⟨by first | rfl | (simp [errW_none, errW_some] <;> rfl) | (simp [*, errW_none, errW_some] <;> rfl), by repeat (first | (with_reducible first | exact HB.out | apply below_alloc | apply pw_below_drewN | apply below_drew1) | exact HB.out)⟩
      ·
       replace c7 := Bool.eq_false_iff.mpr c7; subst c7; have H1 : (api_Point_70_at_56.l0 k1 l0 (l0.length : Int) (wrap64 (x8_1 + 1))) = some r := by rw [if_neg (show ¬ (false = true) by decide)] at H; exact H
       clear H; have H := H1; clear H1; have H' := Aside0.mk H; clear H; have p105 : 0 ≤ (x8_1 : Int) := of_decide_eq_true (by first | (with_reducible assumption) | assumption); have q105 : x8_1 < (l0.length : Int) := of_decide_eq_true (by first | (with_reducible assumption) | assumption); obtain ⟨ad105, e105, hx105_0, hx105_1⟩ := at_T46 HR0.out x8_1 p105 q105; cases e105; replace hx105_0 := (HB.out.cell (World.block_lt_of_cell? w _ hx105_0)).trans hx105_0; replace hx105_1 := (HB.out.cell (World.block_lt_of_cell? w _ hx105_1)).trans hx105_1; replace p105 := eq_true p105; replace q105 := eq_true q105; go_wp2_with (first | (go_at_call 56; (with_reducible refine (profile_Check_1.calls ((rd_T46 l0 x8_1).f0) ((rd_T46 l0 x8_1).f1) false _ A6.out).mono ?_); rintro e w9 ⟨rfl, hb⟩; have n0_ := Aside0.mk (below_step (by repeat (first | (with_reducible first | exact HB.out | apply below_alloc | apply pw_below_drewN | apply below_drew1) | exact HB.out)) hb); clear HB; have HB := n0_; clear n0_; (try clear hb); (try clear hb2); (try clear hk); (try clear hi)))
       go_roundg k1
       case measure => have := HK1.out; omega
       case rel => exact ⟨(wrap64 (x8_1 + 1)), (by first | rfl | (simp; done) | (simp [*]; done)), H', ⟨by have := HK1.out; omega⟩, ⟨by repeat (first | (with_reducible first | exact HB.out | apply below_alloc | apply pw_below_drewN | apply below_drew1) | exact HB.out)⟩⟩
     · rw [if_neg c5] at H; exact absurd H (by simp)
    · rw [if_neg c4] at H; exact absurd H (by simp)
   ·
    rw [if_neg c3] at H; have c3b0 : decide (x8_1 < (l0.length : Int)) = false := decide_eq_false c3; clear c3; obtain rfl := Option.some.inj H; go_wp2; go_ret
    exact ⟨by first | rfl | (simp [errW_none, errW_some] <;> rfl) | (simp [*, errW_none, errW_some] <;> rfl), by repeat (first | (with_reducible first | exact HB.out | apply below_alloc | apply pw_below_drewN | apply below_drew1) | exact HB.out)⟩
def api_Point_55_at_56.f (k : Nat) (l0 : List (S46))  : Option (Bool) := (api_Point_70_at_56.f k l0).bind fun t105 => (some (decide (t105 ≥ 0)))
set_option maxHeartbeats 8000000 in
set_option maxRecDepth 100000 in
theorem api_Point_55_at_56.calls (k : Nat) (A0 : Option Addr) (c0 : Nat) (l0 : List (S46))  (r : Bool) (w : World) (hr0 : Kd.C k46 w A0 l0.length l0) (hc0 : l0.length ≤ c0) (h : api_Point_55_at_56.f k l0 = some r) :
  Calls Tryd.prog 55 #[.slice A0 l0.length c0, .func (.func 56) #[] #[]] w fun e w' => e = .returned (.bool r) ∧ Below w.heap.size w w' := by
 have HR0 := Aside0.mk hr0; have HC0 := Aside0.mk hc0; clear hr0 hc0; have HB := Aside0.mk (Below.refl w.heap.size w); have H : ((api_Point_70_at_56.f k l0).bind fun t105 => (some (decide (t105 ≥ 0)))) = some r := h; clear h; replace H := Option.bind_eq_some_iff.mp H; obtain ⟨t105, A30, H⟩ := H; replace H : (some (decide (t105 ≥ 0))) = some r := H; have A3 := Aside0.mk A30; clear A30; obtain rfl := Option.some.inj H; go_enter Tryd.func55, Tryd.ntmps55
 go_wp2_with (first | ((with_reducible refine gate_callee (f := 70) rfl ?_); refine goesL_ (some 7) rfl rfl Tryd.func70 (by kernel_rfl) rfl #[.slice A0 l0.length c0, .func (.func 56) #[] #[]] rfl (by (try simp only [List.map_toArray, List.map_cons, List.map_nil]); first | done | rfl | (simp only [List.length_drop, List.length_take]; rfl)) ?_; (with_reducible refine (api_Point_70_at_56.calls k _ _ l0 t105 _ ?side1 ?side2 A3.out).mono ?_); (case side1 => repeat (first | exact HR0.out | (with_reducible refine Kd.C_alloc ?_ _) | (with_reducible refine Kd.C_drewN ?_ _) | (with_reducible refine Kd.C_drew ?_))); (case side2 => exact HC0.out); rintro e w4 ⟨rfl, hb⟩; refine ⟨_, rfl, ?_⟩; have n0_ := Aside0.mk (below_step (by repeat (first | (with_reducible first | exact HB.out | apply below_alloc | apply pw_below_drewN | apply below_drew1) | exact HB.out)) hb); clear HB; have HB := n0_; clear n0_; (try clear hb); (try clear hb2); (try clear hk); (try clear hi)))
 go_ret
 exact ⟨by first | rfl | (simp [errW_none, errW_some] <;> rfl) | (simp [*, errW_none, errW_some] <;> rfl), by repeat (first | (with_reducible first | exact HB.out | apply below_alloc | apply pw_below_drewN | apply below_drew1) | exact HB.out)⟩
def api_Point_70_at_59.l0 : Nat → List (S46) → Int → Int → Option (Int)
 | 0, _, _, _ => none
 | k + 1, x0, x7, x8 => if x8 < x7 then (if 0 ≤ x8 then (if x8 < (x0.length : Int) then ((profile_Check_2.f ((rd_T46 x0 x8).f0) ((rd_T46 x0 x8).f1)).bind fun t107 => (if t107 = true then (some x8) else (api_Point_70_at_59.l0 k x0 x7 (wrap64 (x8 + 1))))) else (none)) else (none)) else (some (-1))
def api_Point_70_at_59.f (k : Nat) (l0 : List (S46))  : Option (Int) := api_Point_70_at_59.l0 k l0 (l0.length : Int) 0
set_option maxHeartbeats 8000000 in
set_option maxRecDepth 100000 in
theorem api_Point_70_at_59.calls (k : Nat) (A0 : Option Addr) (c0 : Nat) (l0 : List (S46))  (r : Int) (w : World) (hr0 : Kd.C k46 w A0 l0.length l0) (hc0 : l0.length ≤ c0) (h : api_Point_70_at_59.f k l0 = some r) :
  Calls Tryd.prog 70 #[.slice A0 l0.length c0, .func (.func 59) #[] #[]] w fun e w' => e = .returned (.int .i64 r) ∧ Below w.heap.size w w' := by
 have hu46 := Tryd.underlying46; have HR0 := Aside0.mk hr0; have HC0 := Aside0.mk hc0; clear hr0 hc0; have HB := Aside0.mk (Below.refl w.heap.size w); have H : (api_Point_70_at_59.l0 k l0 (l0.length : Int) 0) = some r := h; clear h; have H' := Aside0.mk H; clear H; go_enter Tryd.func70, Tryd.ntmps70
 go_wp2; go_loopg [8] k (fun kq v8 w' => ∃ (x8_1 : Int), v8 = .int .i64 x8_1 ∧ Aside0 (api_Point_70_at_59.l0 kq l0 (l0.length : Int) x8_1 = some r) ∧ Aside0 (kq ≤ k) ∧ Aside0 (Below w.heap.size w w'))
 case atStart => exact ⟨(0), (by first | rfl | (simp; done) | (simp [*]; done)), H', ⟨Nat.le_refl _⟩, ⟨by repeat (first | (with_reducible first | exact HB.out | apply below_alloc | apply pw_below_drewN | apply below_drew1) | exact HB.out)⟩⟩
 case round =>
  clear H'; try clear p2
  obtain ⟨x8_1, rfl, HA, HK1, HB⟩ := hrel
  cases gk with
  | zero => exact absurd HA.out (by simp [api_Point_70_at_59.l0])
  | succ k1 =>
   have H := HA.out; clear HA; simp only [api_Point_70_at_59.l0] at H; by_cases c3 : x8_1 < (l0.length : Int)
   ·
    rw [if_pos c3] at H; have c3b0 : decide (x8_1 < (l0.length : Int)) = true := decide_eq_true c3; clear c3; by_cases c4 : 0 ≤ x8_1
    ·
     rw [if_pos c4] at H; have c4b0 : decide (0 ≤ x8_1) = true := decide_eq_true c4; clear c4; by_cases c5 : x8_1 < (l0.length : Int)
     ·
      rw [if_pos c5] at H; have c5b0 : decide (x8_1 < (l0.length : Int)) = true := decide_eq_true c5; clear c5; replace H := Option.bind_eq_some_iff.mp H; obtain ⟨t107, A60, H⟩ := H; replace H : (if t107 = true then (some x8_1) else (api_Point_70_at_59.l0 k1 l0 (l0.length : Int) (wrap64 (x8_1 + 1)))) = some r := H; have A6 := Aside0.mk A60; clear A60; by_cases c7 : t107 = true
      ·
       subst c7; have H1 : (some x8_1) = some r := by rw [if_pos rfl] at H; exact H
       clear H; have H := H1; clear H1; obtain rfl := Option.some.inj H; have p106 : 0 ≤ (x8_1 : Int) := of_decide_eq_true (by first | (with_reducible assumption) | assumption); have q106 : x8_1 < (l0.length : Int) := of_decide_eq_true (by first | (with_reducible assumption) | assumption); obtain ⟨ad106, e106, hx106_0, hx106_1⟩ := at_T46 HR0.out x8_1 p106 q106; cases e106; replace hx106_0 := (HB.out.cell (World.block_lt_of_cell? w _ hx106_0)).trans hx106_0; replace hx106_1 := (HB.out.cell (World.block_lt_of_cell? w _ hx106_1)).trans hx106_1; replace p106 := eq_true p106; replace q106 := eq_true q106; go_wp2_with (first | (go_at_call 59; (with_reducible refine (profile_Check_2.calls ((rd_T46 l0 x8_1).f0) ((rd_T46 l0 x8_1).f1) true _ A6.out).mono ?_); rintro e w8 ⟨rfl, hb⟩; have n0_ := Aside0.mk (below_step (by repeat (first | (with_reducible first | exact HB.out | apply below_alloc | apply pw_below_drewN | apply below_drew1) | exact HB.out)) hb); clear HB; have HB := n0_; clear n0_; (try clear hb); (try clear hb2); (try clear hk); (try clear hi)))
       go_ret
       exact ⟨by first | rfl | (simp [errW_none, errW_some] <;> rfl) | (simp [*, errW_none, errW_some] <;> rfl), by repeat (first | (with_reducible first | exact HB.out | apply below_alloc | apply pw_below_drewN | apply below_drew1) | exact HB.out)⟩
      ·
       replace c7 := Bool.eq_false_iff.mpr c7; subst c7; have H1 : (api_Point_70_at_59.l0 k1 l0 (l0.length : Int) (wrap64 (x8_1 + 1))) = some r := by rw [if_neg (show ¬ (false = true) by decide)] at H; exact H
       clear H; have H := H1; clear H1; have H' := Aside0.mk H; clear H; have p106 : 0 ≤ (x8_1 : Int) := of_decide_eq_true (by first | (with_reducible assumption) | assumption); have q106 : x8_1 < (l0.length : Int) := of_decide_eq_true (by first | (with_reducible assumption) | assumption); obtain ⟨ad106, e106, hx106_0, hx106_1⟩ := at_T46 HR0.out x8_1 p106 q106; cases e106; replace hx106_0 := (HB.out.cell (World.block_lt_of_cell? w _ hx106_0)).trans hx106_0; replace hx106_1 := (HB.out.cell (World.block_lt_of_cell? w _ hx106_1)).trans hx106_1; replace p106 := eq_true p106; replace q106 := eq_true q106; go_wp2_with (first | (go_at_call 59; (with_reducible refine (profile_Check_2.calls ((rd_T46 l0 x8_1).f0) ((rd_T46 l0 x8_1).f1) false _ A6.out).mono ?_); rintro e w9 ⟨rfl, hb⟩; have n0_ := Aside0.mk (below_step (by repeat (first | (with_reducible first | exact HB.out | apply below_alloc | apply pw_below_drewN | apply below_drew1) | exact HB.out)) hb); clear HB; have HB := n0_; clear n0_; (try clear hb); (try clear hb2); (try clear hk); (try clear hi)))
       go_roundg k1
       case measure => have := HK1.out; omega
       case rel => exact ⟨(wrap64 (x8_1 + 1)), (by first | rfl | (simp; done) | (simp [*]; done)), H', ⟨by have := HK1.out; omega⟩, ⟨by repeat (first | (with_reducible first | exact HB.out | apply below_alloc | apply pw_below_drewN | apply below_drew1) | exact HB.out)⟩⟩
     · rw [if_neg c5] at H; exact absurd H (by simp)
    · rw [if_neg c4] at H; exact absurd H (by simp)
   ·
    rw [if_neg c3] at H; have c3b0 : decide (x8_1 < (l0.length : Int)) = false := decide_eq_false c3; clear c3; obtain rfl := Option.some.inj H; go_wp2; go_ret
    exact ⟨by first | rfl | (simp [errW_none, errW_some] <;> rfl) | (simp [*, errW_none, errW_some] <;> rfl), by repeat (first | (with_reducible first | exact HB.out | apply below_alloc | apply pw_below_drewN | apply below_drew1) | exact HB.out)⟩
def api_Point_55_at_59.f (k : Nat) (l0 : List (S46))  : Option (Bool) := (api_Point_70_at_59.f k l0).bind fun t106 => (some (decide (t106 ≥ 0)))
set_option maxHeartbeats 8000000 in
set_option maxRecDepth 100000 in
theorem api_Point_55_at_59.calls (k : Nat) (A0 : Option Addr) (c0 : Nat) (l0 : List (S46))  (r : Bool) (w : World) (hr0 : Kd.C k46 w A0 l0.length l0) (hc0 : l0.length ≤ c0) (h : api_Point_55_at_59.f k l0 = some r) :
  Calls Tryd.prog 55 #[.slice A0 l0.length c0, .func (.func 59) #[] #[]] w fun e w' => e = .returned (.bool r) ∧ Below w.heap.size w w' := by
 have HR0 := Aside0.mk hr0; have HC0 := Aside0.mk hc0; clear hr0 hc0; have HB := Aside0.mk (Below.refl w.heap.size w); have H : ((api_Point_70_at_59.f k l0).bind fun t106 => (some (decide (t106 ≥ 0)))) = some r := h; clear h; replace H := Option.bind_eq_some_iff.mp H; obtain ⟨t106, A30, H⟩ := H; replace H : (some (decide (t106 ≥ 0))) = some r := H; have A3 := Aside0.mk A30; clear A30; obtain rfl := Option.some.inj H; go_enter Tryd.func55, Tryd.ntmps55
 go_wp2_with (first | ((with_reducible refine gate_callee (f := 70) rfl ?_); refine goesL_ (some 7) rfl rfl Tryd.func70 (by kernel_rfl) rfl #[.slice A0 l0.length c0, .func (.func 59) #[] #[]] rfl (by (try simp only [List.map_toArray, List.map_cons, List.map_nil]); first | done | rfl | (simp only [List.length_drop, List.length_take]; rfl)) ?_; (with_reducible refine (api_Point_70_at_59.calls k _ _ l0 t106 _ ?side1 ?side2 A3.out).mono ?_); (case side1 => repeat (first | exact HR0.out | (with_reducible refine Kd.C_alloc ?_ _) | (with_reducible refine Kd.C_drewN ?_ _) | (with_reducible refine Kd.C_drew ?_))); (case side2 => exact HC0.out); rintro e w4 ⟨rfl, hb⟩; refine ⟨_, rfl, ?_⟩; have n0_ := Aside0.mk (below_step (by repeat (first | (with_reducible first | exact HB.out | apply below_alloc | apply pw_below_drewN | apply below_drew1) | exact HB.out)) hb); clear HB; have HB := n0_; clear n0_; (try clear hb); (try clear hb2); (try clear hk); (try clear hi)))
 go_ret
 exact ⟨by first | rfl | (simp [errW_none, errW_some] <;> rfl) | (simp [*, errW_none, errW_some] <;> rfl), by repeat (first | (with_reducible first | exact HB.out | apply below_alloc | apply pw_below_drewN | apply below_drew1) | exact HB.out)⟩
def profile_Check.steps : List (S46 × S46) → Int
 | [] => 0
 | x :: r => if x.1.f0 ≥ x.2.f0 then 5 else profile_Check.steps r
def profile_Check.falls : Bool → List (S46 × S46) → Int
 | _, [] => 0
 | t, x :: r => if t = true ∧ x.2.f1 > x.1.f1 then 10 else profile_Check.falls (t || decide (x.2.f1 < x.1.f1)) r
def profile_Check.f (k : Nat) (l0 : List (S46)) : Option Int := if (l0.length : Int) < 2 then some 9 else if (l0.length : Int) > 32 then some 8 else
 (api_Point_55_at_56.f k l0).bind fun b1 => if b1 = true then some 2 else if (rd_T46 l0 0).f0 = 0 then (if profile_Check.steps (nbs l0) = 0 then
  (api_Point_55_at_59.f k l0).bind fun b2 => if b2 = true then some 16 else some (profile_Check.falls false (nbs l0)) else some 5) else some 5
theorem obj_turn {W W' : World} {row : Option Nat} {b D k : Nat} {o : Obj} (h : W.heap[k]? = some o) (hc : o.isCells = true) (hg : W.grownBy W' row) (hr : ∀ r, row = some r → r = b ∨ (D ≤ r ∧ ∃ o : Obj, W.heap[r]? = some o ∧ o.isCells = false)) (hb : k ≠ b) : W'.heap[k]? = some o := by
 refine (hg.block k (Array.getElem?_eq_some_iff.1 h).1 (fun e => ?_)).trans h
 rcases hr k e.symm with h3 | ⟨_, o', ho, hc'⟩
 ·
  exact hb h3
 ·
  rw [h] at ho; cases ho; rw [hc] at hc'; cases hc'
theorem below_turn {w W W' : World} {row : Option Nat} {b D : Nat} (hB : Below w.heap.size w W) (hg : W.grownBy W' row) (hr : ∀ r, row = some r → r = b ∨ (D ≤ r ∧ ∃ o : Obj, W.heap[r]? = some o ∧ o.isCells = false)) (hb : w.heap.size ≤ b) (hD : w.heap.size ≤ D) : Below w.heap.size w W' :=
 hB.grown hg hB.size (fun k e => by rcases hr k e with q | q <;> omega)
theorem results_cell39 {W : World} {tmps : Array Value} {g : Nat} {v : Value} (h : tmps.getD 2 undef = .pointer (some ⟨g, 0, none⟩)) (b : W.heap[g]? = some (.cells #[v] 28 (0, 0))) : (results Tryd.f39 tmps).run Tryd.prog W = .ok v W := by
 have a28 : ∀ W : World, (isAgg 28).run Tryd.prog W = .ok false W := fun W => by kernel_rfl
 have c1 : W.cell? ⟨g, 0, none⟩ = some v := (blk_cell b 0).trans rfl
 have h' : tmps[2]?.getD undef = .pointer (some ⟨g, 0, none⟩) := by simpa using h
 unfold results
 rw [show Tryd.f39.results = [ResultVar.cell 2 28].toArray from rfl, List.mapM_toArray]
 simp only [Sem.run_bind, Sem.run_map]
 simp [List.mapM_cons, h', asAddr, loadVar, a28, c1]
/-- What stands between two rounds of the first range, and of the second. -/
def profile_Check.I1 (l0 : List S46) (w : World) (D : Nat) (pre : List (S46 × S46)) (W : World) : Prop :=
 ∃ rest, nbs l0 = pre ++ rest ∧ profile_Check.steps (nbs l0) = profile_Check.steps rest ∧ W.heap[w.heap.size]? = some (.cells #[.int .i64 0] 28 (0, 0)) ∧ Below w.heap.size w W ∧ D ≤ W.heap.size
def profile_Check.X1 (l0 : List S46) (w : World) (pre : List (S46 × S46)) (W : World) : Prop :=
 profile_Check.steps (nbs l0) = 5 ∧ W.heap[w.heap.size]? = some (.cells #[.int .i64 5] 28 (0, 0)) ∧ Below w.heap.size w W
def profile_Check.I2 (l0 : List S46) (w : World) (g D1 D : Nat) (pre : List (S46 × S46)) (W : World) : Prop :=
 ∃ rest t, nbs l0 = pre ++ rest ∧ profile_Check.falls false (nbs l0) = profile_Check.falls t rest ∧ W.heap[w.heap.size]? = some (.cells #[.int .i64 0] 28 (0, 0)) ∧ W.heap[g]? = some (.cells #[.bool t] 4 (0, 0)) ∧
  W.heap[D1]? = some (.deferred (some [])) ∧ Below w.heap.size w W ∧ D ≤ W.heap.size
def profile_Check.X2 (l0 : List S46) (w : World) (D1 : Nat) (pre : List (S46 × S46)) (W : World) : Prop :=
 profile_Check.falls false (nbs l0) = 10 ∧ W.heap[w.heap.size]? = some (.cells #[.int .i64 10] 28 (0, 0)) ∧ W.heap[D1]? = some (.deferred (some [])) ∧ Below w.heap.size w W
theorem keeps_refl {D : Nat} (W : World) : KeepsFrom D W W := ⟨Nat.le_refl _, fun _ _ _ h _ => h⟩
theorem keeps_cell {W : World} {D g t : Nat} {cs : Array Value} (h : W.heap[g]? = some (.cells cs t (0, 0))) (i : Nat) (v : Value) : KeepsFrom D W (W.setCell ⟨g, i, none⟩ v) := by
 refine ⟨by simp, fun k o hk ho hc => ?_⟩
 by_cases e : k = g
 ·
  subst e; rw [h] at ho; cases ho; cases hc
 ·
  exact (Below.heap_setCell _ _ _ k e).trans ho
theorem obj_turn2 {W W' : World} {row : Option Nat} {b D k : Nat} {o : Obj} (h : W.heap[k]? = some o) (hg : W.grownBy W' row) (hr : ∀ r, row = some r → r = b ∨ (D ≤ r ∧ ∃ o : Obj, W.heap[r]? = some o ∧ o.isCells = false)) (hb : k ≠ b) (hD : k < D) : W'.heap[k]? = some o := by
 refine (hg.block k (Array.getElem?_eq_some_iff.1 h).1 (fun e => ?_)).trans h
 rcases hr k e.symm with h3 | h3
 ·
  exact hb h3
 ·
  omega
theorem profile_Check.leave1 {n : Nat} {w W : World} {D : Nat} {r : Int} {tmps : Array Value} (hK : W.heap[D]? = some (.deferred (some []))) (hD : w.heap.size < D)
  (y0 : W.heap[w.heap.size]? = some (.cells #[.int .i64 r] 28 (0, 0))) (hB : Below w.heap.size w W) (t2 : tmps.getD 2 undef = .pointer (some ⟨w.heap.size, 0, none⟩)) :
  LeavesInM Fence.wide n Tryd.prog Tryd.f39 tmps (fun e w' => e = .returned (.int .i64 r) ∧ Below w.heap.size w w') [{ target := .collected D, args := #[] }] .returning W := by
 have hg := grownBy_putObj' W D (.deferred none)
 refine ⟨by simp, .inl ⟨_, _, rfl, run_takeDeferred hK, ⟨_, results_cell39 t2 ((hg.block _ (Array.getElem?_eq_some_iff.1 y0).1 (fun e => by have := Option.some.inj e; omega)).trans y0), rfl, ?_⟩⟩⟩
 exact hB.grown hg hB.size (fun k e => by cases e; omega)
theorem profile_Check.leave2 {n : Nat} {w W : World} {D1 D : Nat} {r : Int} {tmps : Array Value} (hK : W.heap[D]? = some (.deferred (some []))) (hK1 : W.heap[D1]? = some (.deferred (some []))) (hD1 : w.heap.size < D1) (hD : D1 < D)
  (y0 : W.heap[w.heap.size]? = some (.cells #[.int .i64 r] 28 (0, 0))) (hB : Below w.heap.size w W) (t2 : tmps.getD 2 undef = .pointer (some ⟨w.heap.size, 0, none⟩)) :
  LeavesInM Fence.wide n Tryd.prog Tryd.f39 tmps (fun e w' => e = .returned (.int .i64 r) ∧ Below w.heap.size w w') [{ target := .collected D, args := #[] }, { target := .collected D1, args := #[] }] .returning W := by
 have hg := grownBy_putObj' W D (.deferred none)
 refine ⟨by simp, .inl ⟨_, _, rfl, run_takeDeferred hK, ?_⟩⟩
 exact profile_Check.leave1 ((hg.block _ (Array.getElem?_eq_some_iff.1 hK1).1 (fun e => by have := Option.some.inj e; omega)).trans hK1) hD1 ((hg.block _ (Array.getElem?_eq_some_iff.1 y0).1 (fun e => by have := Option.some.inj e; omega)).trans y0) (hB.grown hg hB.size (fun k e => by cases e; omega)) t2
def profile_Check.M (I : List (S46 × S46) → World → Prop) (D : Nat) (x : S46 × S46) (p : Nat) (pre : List (S46 × S46)) (W : World) : Prop :=
 I pre W ∧ D ≤ p ∧ W.heap[p]? = some (.cells #[.int .i64 x.1.f0, .int .i64 x.1.f1] 46 (0, 0)) ∧ W.heap[p + 1]? = some (.cells #[.int .i64 x.2.f0, .int .i64 x.2.f1] 46 (0, 0))
theorem profile_Check.M_ab {I : List (S46 × S46) → World → Prop} {D b : Nat} (hI : AbFrom D b I) (hb : b < D) (x : S46 × S46) (p : Nat) : AbFrom D b (profile_Check.M I D x p) := by
 rintro s W W' row ⟨h1, h2, h3, h4⟩ hg hr
 exact ⟨hI s W W' row h1 hg hr, h2, obj_turn h3 rfl hg hr (by omega), obj_turn h4 rfl hg hr (by omega)⟩
theorem keeps_two {W : World} {D : Nat} (o1 o2 : Obj) : KeepsFrom D W ((W.alloc o1).alloc o2) :=
 ⟨by simp [World.size_alloc]; omega, fun k o hk ho hc => by
  have hlt := (Array.getElem?_eq_some_iff.1 ho).1
  exact (Below.heap_alloc _ _ _ (by rw [World.size_alloc]; omega)).trans ((Below.heap_alloc _ _ _ hlt).trans ho)⟩
theorem two_new (W : World) (o1 o2 : Obj) : ((W.alloc o1).alloc o2).heap[W.heap.size]? = some o1 ∧ ((W.alloc o1).alloc o2).heap[W.heap.size + 1]? = some o2 := by
 refine ⟨(Below.heap_alloc _ _ _ (by rw [World.size_alloc]; omega)).trans (World.alloc_heap_new W o1), ?_⟩
 have := World.alloc_heap_new (W.alloc o1) o2
 rwa [World.size_alloc] at this
theorem grown_two (W : World) (o1 o2 : Obj) : W.grownBy ((W.alloc o1).alloc o2) none :=
 ⟨rfl, rfl, rfl, by simp [World.size_alloc]; omega, fun k hk _ => (Below.heap_alloc _ _ _ (by rw [World.size_alloc]; omega)).trans (Below.heap_alloc _ _ _ hk)⟩
theorem at0_T46 {w : World} {A : Option Addr} {n : Nat} {xs : List S46} (h : Kd.C k46 w A n xs) (h1 : 0 < n) : ∃ ad, A = some ad ∧ w.cell? ad = some (.int .i64 (rd_T46 xs 0).f0) := by
 obtain ⟨ad, e, x, _⟩ := at_T46 h 0 (Int.le_refl _) (by omega)
 refine ⟨ad, e, ?_⟩
 have e0 : ad.add ((0 : Int).toNat * 2) = ad := by simp [Addr.add]
 rwa [e0] at x
section
attribute [local go_sem] Oper.semAt_some
set_option maxHeartbeats 8000000 in
set_option maxRecDepth 100000 in
theorem profile_Check.calls (k : Nat) (A0 : Option Addr) (c0 : Nat) (l0 : List (S46)) (r : Int) (w : World) (hr0 : Kd.C k46 w A0 l0.length l0) (hc0 : l0.length ≤ c0) (h : profile_Check.f k l0 = some r) :
  Calls Tryd.prog 39 #[.slice A0 l0.length c0] w fun e w' => e = .returned (.int .i64 r) ∧ Below w.heap.size w w' := by
 have hu25 := Tryd.underlying25; have hu46 := Tryd.underlying46; unfold profile_Check.f at h; refine (callsIn_wide (n := 5)).1 ?_; refine callsIn_of_wp_marks Tryd.func39 rfl trivial ?_ rfl; simp only [Tryd.ntmps39, List.size_toArray, List.length_cons, List.length_nil, Nat.reduceAdd, Nat.reduceSub, Array.replicate_succ, Array.replicate_zero, List.push_toArray, List.append_toArray, List.nil_append, List.cons_append]; by_cases c1 : (l0.length : Int) < 2
 ·
  rw [if_pos c1] at h; cases h; have c1b : decide ((l0.length : Int) < 2) = true := decide_eq_true c1; clear c1; gi_wp2
  exact ⟨_, results_cell39 rfl (World.alloc_heap_new _ _), rfl, below_alloc (Below.refl _ _) _⟩
 rw [if_neg c1] at h; have c1b : decide ((l0.length : Int) < 2) = false := decide_eq_false c1; by_cases c2 : (l0.length : Int) > 32
 ·
  rw [if_pos c2] at h; cases h; have c2b : decide ((l0.length : Int) > 32) = true := decide_eq_true c2; have c2c : decide ((32 : Int) < (l0.length : Int)) = true := decide_eq_true c2; clear c1 c2; gi_wp2
  exact ⟨_, results_cell39 rfl (World.alloc_heap_new _ _), rfl, below_alloc (Below.refl _ _) _⟩
 rw [if_neg c2] at h; have c2b : decide ((l0.length : Int) > 32) = false := decide_eq_false c2; have c2c : decide ((32 : Int) < (l0.length : Int)) = false := decide_eq_false c2; obtain ⟨b1, hb1, h⟩ := Option.bind_eq_some_iff.mp h; have HC0 := Aside0.mk hc0; have HR0 := Aside0.mk hr0; have HL := Aside0.mk (show l0.length < 4294967296 by omega); have HL0 := Aside0.mk (show 0 < l0.length by omega); clear hc0 hr0 c1 c2
 cases b1 with
 | true =>
  rw [if_pos rfl] at h; cases h; gi_wp2_with (refine ⟨trivial, ?_⟩; gi_at_call 55; refine (callsIn_wide.2 (api_Point_55_at_56.calls k A0 c0 l0 true _ (Kd.C_alloc HR0.out _) HC0.out hb1)).mono ?_; rintro e w1 ⟨rfl, hq⟩; have z := blk_below (World.alloc_heap_new w _) hq; have z1 : w1.cell? ⟨w.heap.size, 0, none⟩ = some (.int .i64 0) := (blk_cell z 0).trans rfl; have z2 := blk_frozen z 0)
  exact ⟨_, results_cell39 rfl (blk_put z 0 _ rfl), rfl, below_set (below_step (below_alloc (Below.refl _ _) _) hq) (Nat.le_refl _)⟩
 | false =>
  rw [if_neg (by simp)] at h; have hpt := fun (w1 : World) (hq : Below w.heap.size w w1) => at0_T46 (Kd.C_below HR0.out hq) HL0.out
  by_cases c3 : (rd_T46 l0 0).f0 = 0
  case neg =>
   rw [if_neg c3] at h; cases h; have c3b : ((rd_T46 l0 0).f0 == 0) = false := beq_eq_false_iff_ne.mpr c3; have c3c : ((rd_T46 l0 0).f0 != 0) = true := bne_iff_ne.mpr c3; have q0 : (0 < l0.length) = True := eq_true HL0.out; gi_wp2_with (refine ⟨trivial, ?_⟩; gi_at_call 55; refine (callsIn_wide.2 (api_Point_55_at_56.calls k A0 c0 l0 false _ (Kd.C_alloc HR0.out _) HC0.out hb1)).mono ?_; rintro e w1 ⟨rfl, hq⟩; have z := blk_below (World.alloc_heap_new w _) hq; have z1 : w1.cell? ⟨w.heap.size, 0, none⟩ = some (.int .i64 0) := (blk_cell z 0).trans rfl; have z2 := blk_frozen z 0; have hBq := below_step (below_alloc (Below.refl w.heap.size w) _) hq; obtain ⟨ad, rfl, x0⟩ := hpt w1 hBq)
   exact ⟨_, results_cell39 rfl (blk_put z 0 _ rfl), rfl, below_set hBq (Nat.le_refl _)⟩
  rw [if_pos c3] at h; have c3b : ((rd_T46 l0 0).f0 == 0) = true := beq_iff_eq.mpr c3; have c3c : ((rd_T46 l0 0).f0 != 0) = false := bne_eq_false_iff_eq.mpr c3; have q0 : (0 < l0.length) = True := eq_true HL0.out; gi_wp2_with (first | (refine ⟨trivial, ?_⟩; gi_at_call 55; refine (callsIn_wide.2 (api_Point_55_at_56.calls k A0 c0 l0 false _ (Kd.C_alloc HR0.out _) HC0.out hb1)).mono ?_; rintro e w1 ⟨rfl, hq⟩; have z := blk_below (World.alloc_heap_new w _) hq; have hBq := below_step (below_alloc (Below.refl w.heap.size w) _) hq; obtain ⟨ad, rfl, x0⟩ := hpt w1 hBq) | (refine ⟨trivial, ?_⟩; gi_at_call 58; refine (staves_calls _ _ _ _).mono ?_; rintro e w' ⟨rfl, rfl⟩))
  have hBW := below_alloc hBq (.cells #[.slice (some ad) l0.length c0] 25); have bx : Boxed (w1.alloc (.cells #[.slice (some ad) l0.length c0] 25)) w1.heap.size 25 (.slice (some ad) l0.length c0) := Boxed.new _ _ _; have hz := blk_alloc z (.cells #[.slice (some ad) l0.length c0] 25); have hs1 : w.heap.size < w1.heap.size := blk_lt z; have hseq := staves_box w1.heap.size l0 (some ad) c0 HL.out _ bx; obtain ⟨W0, hW0⟩ : ∃ W0, W0 = w1.alloc (.cells #[.slice (some ad) l0.length c0] 25) := ⟨_, rfl⟩; have hsz : W0.heap.size = w1.heap.size + 1 := by rw [hW0]; simp [World.size_alloc]
  rw [← hW0] at hBW bx hz hseq; try simp only [World.size_alloc]
  rw [← hW0]
  refine wpIn_rangeFunc_box2 (F := Fence.wide) (n := 5) (b := w1.heap.size) rfl (by decide) (gf := 71) (lb := #[.pointer (some ⟨w1.heap.size, 0, none⟩)]) rfl trivial (enters_of Tryd.func71 (by kernel_rfl) rfl) hseq (by omega) (Below.refl _ _) (fun _ => rfl)
   (profile_Check.I1 l0 w W0.heap.size) (profile_Check.X1 l0 w) ?hIG ?hI ?hIx ?h0
   (fun x p => { tmps := #[Value.slice (some ad) l0.length c0, undef, Value.pointer (some ⟨w.heap.size, 0, none⟩), .pointer (some ⟨p, 0, none⟩), .pointer (some ⟨p + 1, 0, none⟩), undef, undef, undef, Value.bool false, Value.slice (some ad) l0.length c0, Value.int IntKind.i64 ↑l0.length, Value.bool false, Value.bool false, Value.slice (some ad) l0.length c0, Value.int IntKind.i64 ↑l0.length, Value.bool false, Value.bool false, Value.slice (some ad) l0.length c0, Value.bool false, Value.bool false, Value.slice (some ad) l0.length c0, Value.pointer (some ad), Value.pointer (some ad), Value.int IntKind.i64 0, Value.bool false, Value.slice (some ad) l0.length c0, Value.func (Fn.func 71) #[] #[Value.pointer (some ⟨w1.heap.size, 0, none⟩)], .agg #[.int .i64 x.1.f0, .int .i64 x.1.f1], .agg #[.int .i64 x.2.f0, .int .i64 x.2.f1], undef, undef, undef, undef, undef, undef, undef, undef, undef, undef, undef, undef, undef, undef, undef, undef, undef, undef, undef, undef, undef, undef, undef, undef, undef, undef, undef], defers := [] })
   (profile_Check.M (profile_Check.I1 l0 w W0.heap.size) W0.heap.size) ?hM ?assign ?body ?done ?stop
  case hIG =>
   rintro pre W ⟨_, _, _, _, hB, _⟩; exact Kd.C_below HR0.out hB
  case hI =>
   rintro s W W' row ⟨rest, q1, q2, q3, hB, hD⟩ hg hr; exact ⟨rest, q1, q2, obj_turn2 q3 hg hr (by omega) (by omega), below_turn hB hg hr (by omega) (by omega), Nat.le_trans hD hg.size⟩
  case hIx =>
   rintro s W W' row ⟨q1, q3, hB⟩ hg hr; exact ⟨q1, obj_turn2 q3 hg hr (by omega) (by omega), below_turn hB hg hr (by omega) (by omega)⟩
  case h0 => exact ⟨nbs l0, rfl, rfl, hz, hBW, Nat.le_refl _⟩
  case hM =>
   intro x p; refine profile_Check.M_ab ?_ (by omega) x p; rintro s W W' row ⟨rest, q1, q2, q3, hB, hD⟩ hg hr; exact ⟨rest, q1, q2, obj_turn2 q3 hg hr (by omega) (by omega), below_turn hB hg hr (by omega) (by omega), Nat.le_trans hD hg.size⟩
  case assign =>
   rintro l pre x W K ⟨rest, q1, q2, q3, hB, hD⟩ hpre hK; dsimp only [nencs]
   gi_wp2
   have hn := two_new W (.cells #[.int .i64 x.1.f0, .int .i64 x.1.f1] 46) (.cells #[.int .i64 x.2.f0, .int .i64 x.2.f1] 46); have hg := grown_two W (.cells #[.int .i64 x.1.f0, .int .i64 x.1.f1] 46) (.cells #[.int .i64 x.2.f0, .int .i64 x.2.f1] 46); exact hK W.heap.size _ ⟨⟨rest, q1, q2, (hg.block _ (blk_lt q3) (by simp)).trans q3, below_alloc (below_alloc hB _) _, Nat.le_trans hD hg.size⟩, hD, hn.1, hn.2⟩ (keeps_two _ _) (hg.block _ (by omega) (by simp))
  case body =>
   rintro l pre x p W ⟨⟨rest, q1, q2, q3, hB, hD⟩, hp, hx, hy⟩ ⟨more, hmore⟩
   have hrest : rest = x :: more := by
    rw [← hmore, List.append_assoc] at q1; exact (List.append_cancel_left q1).symm
   subst hrest; rw [List.append_cons] at q1; have z0 : W.cell? ⟨p, 0, none⟩ = some (.int .i64 x.1.f0) := (blk_cell hx 0).trans rfl; have z1 : W.cell? ⟨p + 1, 0, none⟩ = some (.int .i64 x.2.f0) := (blk_cell hy 0).trans rfl; have z2 : W.cell? ⟨w.heap.size, 0, none⟩ = some (.int .i64 0) := (blk_cell q3 0).trans rfl; have z3 := blk_frozen q3 0; rw [show profile_Check.steps (x :: more) = if x.1.f0 ≥ x.2.f0 then 5 else profile_Check.steps more from rfl] at q2; by_cases c : x.1.f0 ≥ x.2.f0
   ·
    have cb : decide (x.1.f0 ≥ x.2.f0) = true := decide_eq_true c; have cb2 : decide (x.2.f0 ≤ x.1.f0) = true := decide_eq_true c; rw [if_pos c] at q2; clear c; gi_wp2
    exact ⟨keeps_cell q3 0 _, q2, blk_put q3 0 _ rfl, below_set hB (Nat.le_refl _)⟩
   ·
    have cb : decide (x.1.f0 ≥ x.2.f0) = false := decide_eq_false c; have cb2 : decide (x.2.f0 ≤ x.1.f0) = false := decide_eq_false c; rw [if_neg c] at q2; clear c; gi_wp2
    exact ⟨keeps_refl _, rfl, more, q1, q2, q3, hB, hD⟩
  case done =>
   rintro W ⟨rest, q1, q2, q3, hB, hD0⟩ hD; have hrest : rest = [] := by simpa using q1
   subst hrest; have e0 : profile_Check.steps (nbs l0) = 0 := q2; rw [if_pos e0] at h; rw [hsz] at hD; obtain ⟨b2, hb2, h⟩ := Option.bind_eq_some_iff.mp h
   cases b2 with
   | true =>
    rw [if_pos rfl] at h; obtain rfl := Option.some.inj h; gi_wp2_with (refine ⟨trivial, ?_⟩; gi_at_call 55; refine (callsIn_wide.2 (api_Point_55_at_59.calls k (some ad) c0 l0 true W (Kd.C_below HR0.out hB) HC0.out hb2)).mono ?_; rintro e w4 ⟨rfl, hq4⟩; have y := blk_below q3 hq4; have y1 : w4.cell? ⟨w.heap.size, 0, none⟩ = some (.int .i64 0) := (blk_cell y 0).trans rfl; have y2 := blk_frozen y 0; have hD4 := blk_below hD hq4; have hB4 := below_step hB hq4)
    exact profile_Check.leave1 ((Below.heap_setCell _ _ _ _ (by show w1.heap.size + 1 ≠ w.heap.size; omega)).trans hD4) (by omega) (blk_put y 0 _ rfl) (below_set hB4 (Nat.le_refl _)) rfl
   | false =>
    rw [if_neg (by simp)] at h; have hr_ := Option.some.inj h; gi_wp2_with (first | (refine ⟨trivial, ?_⟩; gi_at_call 55; refine (callsIn_wide.2 (api_Point_55_at_59.calls k (some ad) c0 l0 false W (Kd.C_below HR0.out hB) HC0.out hb2)).mono ?_; rintro e w4 ⟨rfl, hq4⟩; have y := blk_below q3 hq4; have y1 : w4.cell? ⟨w.heap.size, 0, none⟩ = some (.int .i64 0) := (blk_cell y 0).trans rfl; have y2 := blk_frozen y 0; have hD4 := blk_below hD hq4; have hB4 := below_step hB hq4) | (refine ⟨trivial, ?_⟩; gi_at_call 58; refine (staves_calls _ _ _ _).mono ?_; rintro e w' ⟨rfl, rfl⟩))
    have hlt4 : w1.heap.size + 1 < w4.heap.size := blk_lt hD4; obtain ⟨W5, hW5⟩ : ∃ W5, W5 = w4.alloc (.cells #[.bool false] 4) := ⟨_, rfl⟩; have hs5 : W5.heap.size = w4.heap.size + 1 := by rw [hW5]; simp [World.size_alloc]
    have bx6 : Boxed (W5.alloc (.cells #[.slice (some ad) l0.length c0] 25)) W5.heap.size 25 (.slice (some ad) l0.length c0) := Boxed.new _ _ _; have hf6 : (W5.alloc (.cells #[.slice (some ad) l0.length c0] 25)).heap[w4.heap.size]? = some (.cells #[.bool false] 4 (0, 0)) := blk_alloc (by rw [hW5]; exact World.alloc_heap_new _ _) _; have hD6 : (W5.alloc (.cells #[.slice (some ad) l0.length c0] 25)).heap[w1.heap.size + 1]? = some (.deferred (some [])) := blk_alloc (by rw [hW5]; exact blk_alloc hD4 _) _; have y6 : (W5.alloc (.cells #[.slice (some ad) l0.length c0] 25)).heap[w.heap.size]? = some (.cells #[.int .i64 0] 28 (0, 0)) := blk_alloc (by rw [hW5]; exact blk_alloc y _) _; have hB6 : Below w.heap.size w (W5.alloc (.cells #[.slice (some ad) l0.length c0] 25)) := below_alloc (by rw [hW5]; exact below_alloc hB4 _) _; have hseq6 := staves_box W5.heap.size l0 (some ad) c0 HL.out _ bx6; rw [← hW5]; obtain ⟨W6, hW6⟩ : ∃ W6, W6 = W5.alloc (.cells #[.slice (some ad) l0.length c0] 25) := ⟨_, rfl⟩; have hs6 : W6.heap.size = w4.heap.size + 2 := by rw [hW6]; simp [World.size_alloc]; omega
    rw [← hW6] at bx6 hf6 hD6 y6 hB6 hseq6; rw [hs5] at hseq6; try simp only [hs5]
    rw [← hW6]
    refine wpIn_rangeFunc_box2 (F := Fence.wide) (n := 5) (b := w4.heap.size + 1) rfl (by decide) (gf := 71) (lb := #[.pointer (some ⟨w4.heap.size + 1, 0, none⟩)]) rfl trivial (enters_of Tryd.func71 (by kernel_rfl) rfl) hseq6 (by omega) (Below.refl _ _) (fun _ => rfl)
     (profile_Check.I2 l0 w w4.heap.size (w1.heap.size + 1) W6.heap.size) (profile_Check.X2 l0 w (w1.heap.size + 1)) ?hIG2 ?hI2 ?hIx2 ?h02
     (fun x p => { tmps := #[Value.slice (some ad) l0.length c0, undef, Value.pointer (some ⟨w.heap.size, 0, none⟩), undef, undef, Value.pointer (some ⟨w4.heap.size, 0, none⟩), .pointer (some ⟨p, 0, none⟩), .pointer (some ⟨p + 1, 0, none⟩), Value.bool false, Value.slice (some ad) l0.length c0, Value.int IntKind.i64 ↑l0.length, Value.bool false, Value.bool false, Value.slice (some ad) l0.length c0, Value.int IntKind.i64 ↑l0.length, Value.bool false, Value.bool false, Value.slice (some ad) l0.length c0, Value.bool false, Value.bool false, Value.slice (some ad) l0.length c0, Value.pointer (some ad), Value.pointer (some ad), Value.int IntKind.i64 0, Value.bool false, Value.slice (some ad) l0.length c0, Value.func (Fn.func 71) #[] #[Value.pointer (some ⟨w1.heap.size, 0, none⟩)], undef, undef, undef, undef, undef, undef, undef, Value.slice (some ad) l0.length c0, Value.bool false, Value.slice (some ad) l0.length c0, Value.func (Fn.func 71) #[] #[Value.pointer (some ⟨w4.heap.size + 1, 0, none⟩)], .agg #[.int .i64 x.1.f0, .int .i64 x.1.f1], .agg #[.int .i64 x.2.f0, .int .i64 x.2.f1], undef, undef, undef, undef, undef, undef, undef, undef, undef, undef, undef, undef, undef, undef, undef, undef], defers := [] })
     (profile_Check.M (profile_Check.I2 l0 w w4.heap.size (w1.heap.size + 1) W6.heap.size) W6.heap.size) ?hM2 ?assign2 ?body2 ?done2 ?stop2
    case hIG2 =>
     rintro pre W ⟨_, _, _, _, _, _, _, hB, _⟩; exact Kd.C_below HR0.out hB
    case hI2 =>
     rintro s W W' row ⟨rest, tf, q1, q2, q3, q4, q5, hB, hD⟩ hg hr; exact ⟨rest, tf, q1, q2, obj_turn2 q3 hg hr (by omega) (by omega), obj_turn2 q4 hg hr (by omega) (by omega), obj_turn2 q5 hg hr (by omega) (by omega), below_turn hB hg hr (by omega) (by omega), Nat.le_trans hD hg.size⟩
    case hIx2 =>
     rintro s W W' row ⟨q1, q3, q5, hB⟩ hg hr; exact ⟨q1, obj_turn2 q3 hg hr (by omega) (by omega), obj_turn2 q5 hg hr (by omega) (by omega), below_turn hB hg hr (by omega) (by omega)⟩
    case h02 => exact ⟨nbs l0, false, rfl, rfl, y6, hf6, hD6, hB6, Nat.le_refl _⟩
    case hM2 =>
     intro x p; refine profile_Check.M_ab ?_ (by omega) x p; rintro s W W' row ⟨rest, tf, q1, q2, q3, q4, q5, hB, hD⟩ hg hr; exact ⟨rest, tf, q1, q2, obj_turn2 q3 hg hr (by omega) (by omega), obj_turn2 q4 hg hr (by omega) (by omega), obj_turn2 q5 hg hr (by omega) (by omega), below_turn hB hg hr (by omega) (by omega), Nat.le_trans hD hg.size⟩
    case assign2 =>
     rintro l pre x W K ⟨rest, tf, q1, q2, q3, q4, q5, hB, hD⟩ hpre hK; dsimp only [nencs]
     gi_wp2
     have hn := two_new W (.cells #[.int .i64 x.1.f0, .int .i64 x.1.f1] 46) (.cells #[.int .i64 x.2.f0, .int .i64 x.2.f1] 46); have hg := grown_two W (.cells #[.int .i64 x.1.f0, .int .i64 x.1.f1] 46) (.cells #[.int .i64 x.2.f0, .int .i64 x.2.f1] 46); exact hK W.heap.size _ ⟨⟨rest, tf, q1, q2, (hg.block _ (blk_lt q3) (by simp)).trans q3, (hg.block _ (blk_lt q4) (by simp)).trans q4, (hg.block _ (blk_lt q5) (by simp)).trans q5, below_alloc (below_alloc hB _) _, Nat.le_trans hD hg.size⟩, hD, hn.1, hn.2⟩ (keeps_two _ _) (hg.block _ (by omega) (by simp))
    case body2 =>
     rintro l pre x p W ⟨⟨rest, tf, q1, q2, q3, q4, q5, hB, hD⟩, hp, hx, hy⟩ ⟨more, hmore⟩
     have hrest : rest = x :: more := by
      rw [← hmore, List.append_assoc] at q1; exact (List.append_cancel_left q1).symm
     subst hrest; rw [List.append_cons] at q1; have z0 : W.cell? ⟨p, 1, none⟩ = some (.int .i64 x.1.f1) := (blk_cell hx 1).trans rfl; have z1 : W.cell? ⟨p + 1, 1, none⟩ = some (.int .i64 x.2.f1) := (blk_cell hy 1).trans rfl; have z2 : W.cell? ⟨w.heap.size, 0, none⟩ = some (.int .i64 0) := (blk_cell q3 0).trans rfl; have z3 := blk_frozen q3 0; have z4 : W.cell? ⟨w4.heap.size, 0, none⟩ = some (.bool tf) := (blk_cell q4 0).trans rfl; have z5 := blk_frozen q4 0; rw [show profile_Check.falls tf (x :: more) = if tf = true ∧ x.2.f1 > x.1.f1 then 10 else profile_Check.falls (tf || decide (x.2.f1 < x.1.f1)) more from rfl] at q2; have ne1 : w.heap.size ≠ w4.heap.size := by omega
     have ne2 : w1.heap.size + 1 ≠ w4.heap.size := by omega
     have ne3 : w4.heap.size + 1 ≠ w4.heap.size := by omega
     have hge : w.heap.size ≤ w4.heap.size := by omega
     have ne4 : w1.heap.size + 1 ≠ w.heap.size := by omega
     have fin : ∀ u : Bool, (tf || decide (x.2.f1 < x.1.f1)) = u → ¬ (tf = true ∧ x.2.f1 > x.1.f1) →
       boxPost W6.heap.size (w4.heap.size + 1) (profile_Check.I2 l0 w w4.heap.size (w1.heap.size + 1) W6.heap.size) (profile_Check.X2 l0 w (w1.heap.size + 1)) (pre ++ [x]) W .normal { tmps := #[], defers := [] } (W.setCell ⟨w4.heap.size, 0, none⟩ (.bool u)) := by
      intro u hu hn; rw [if_neg hn, hu] at q2; exact ⟨keeps_cell q4 0 _, Below.heap_setCell _ _ _ _ ne3, more, u, q1, q2, (Below.heap_setCell _ _ _ _ ne1).trans q3, blk_put q4 0 _ rfl, (Below.heap_setCell _ _ _ _ ne2).trans q5, below_set hB hge, by simpa using hD⟩
     cases tf with
     | true =>
      by_cases c : x.2.f1 > x.1.f1
      ·
       have cb : decide (x.2.f1 > x.1.f1) = true := decide_eq_true c; have cb2 : decide (x.1.f1 < x.2.f1) = true := decide_eq_true c; rw [if_pos ⟨rfl, c⟩] at q2; clear c fin; gi_wp2
       exact ⟨keeps_cell q3 0 _, q2, blk_put q3 0 _ rfl, (Below.heap_setCell _ _ _ _ ne4).trans q5, below_set hB (Nat.le_refl _)⟩
      ·
       have cb : decide (x.2.f1 > x.1.f1) = false := decide_eq_false c; have cb2 : decide (x.1.f1 < x.2.f1) = false := decide_eq_false c; have fin0 := fin true rfl (fun h => c h.2); have fin1 := fin0; rw [hs6] at fin1; clear c fin; gi_wp2
       first | exact fin0 | exact fin1
     | false =>
      by_cases c : x.2.f1 < x.1.f1
      ·
       have cb : decide (x.2.f1 < x.1.f1) = true := decide_eq_true c; have fin0 := fin true (by rw [cb]; rfl) (fun h => by cases h.1); have fin1 := fin0; rw [hs6] at fin1; clear c fin; gi_wp2
       first | exact fin0 | exact fin1
      ·
       have cb : decide (x.2.f1 < x.1.f1) = false := decide_eq_false c; have fin0 := fin false (by rw [cb]; rfl) (fun h => by cases h.1); have fin1 := fin0; rw [hs6] at fin1; clear c fin; gi_wp2
       first | exact fin0 | exact fin1
    case done2 =>
     rintro W ⟨rest, tf, q1, q2, q3, q4, q5, hB, hD0⟩ hD; have hrest : rest = [] := by simpa using q1
     subst hrest; obtain rfl : r = 0 := hr_.symm.trans q2; have z2 : W.cell? ⟨w.heap.size, 0, none⟩ = some (.int .i64 0) := (blk_cell q3 0).trans rfl; have z3 := blk_frozen q3 0; gi_wp2
     exact profile_Check.leave2 ((Below.heap_setCell _ _ _ _ (by show W6.heap.size ≠ w.heap.size; omega)).trans hD) ((Below.heap_setCell _ _ _ _ (by show w1.heap.size + 1 ≠ w.heap.size; omega)).trans q5) (by omega) (by omega) (blk_put q3 0 _ rfl) (below_set hB (Nat.le_refl _)) rfl
    case stop2 =>
     rintro pre W _ ⟨q1, q3, q5, hB⟩ hD; obtain rfl : r = 10 := hr_.symm.trans q1; gi_wp2
     exact profile_Check.leave2 hD q5 (by omega) (by omega) q3 hB rfl
  case stop =>
   rintro pre W _ ⟨q1, q3, hB⟩ hD; rw [q1, if_neg (by decide)] at h; obtain rfl := Option.some.inj h; rw [hsz] at hD; gi_wp2
   exact profile_Check.leave1 hD (by omega) q3 hB rfl
end
def cask_Check.j0 : Nat → Bool → ByteArray → Int → List (S46) → Int → Option (Int)
 | 0, _, _, _, _, _ => none
 | k + 1, x8, x108000, x108001, x108002, x108003 => if x8 = true then (some 2) else (if x108003 < 0 then (some 2) else (if x108003 > 1073741824 then (some 2) else ((profile_Check.f k x108002).bind fun t109 => (some t109))))
def cask_Check.f (k : Nat) (a0_0 : ByteArray) (a0_1 : Int) (l0_2 : List (S46)) (a0_3 : Int) : Option (Int) := (cask_named.f k a0_0).bind fun t108 => (if t108 = true then (if a0_1 = 1 then (cask_Check.j0 k false a0_0 a0_1 l0_2 a0_3) else (cask_Check.j0 k (a0_1 != 2) a0_0 a0_1 l0_2 a0_3)) else (some 4))
set_option maxHeartbeats 8000000 in
set_option maxRecDepth 100000 in
theorem cask_Check.calls (k : Nat) (a0_0 : ByteArray) (a0_1 : Int) (A0_2 : Option Addr) (c0_2 : Nat) (l0_2 : List (S46)) (a0_3 : Int) (r : Int) (w : World) (hr0_2 : Kd.C k46 w A0_2 l0_2.length l0_2) (hc0_2 : l0_2.length ≤ c0_2) (h : cask_Check.f k a0_0 a0_1 l0_2 a0_3 = some r) :
  Calls Tryd.prog 20 #[.agg #[.string a0_0, .int .i64 a0_1, .slice A0_2 l0_2.length c0_2, .int .i64 a0_3]] w fun e w' => e = .returned (.int .i64 r) ∧ Below w.heap.size w w' := by
 have hu27 := Tryd.underlying27; have HR0_2 := Aside0.mk hr0_2; have HC0_2 := Aside0.mk hc0_2; clear hr0_2 hc0_2; have HB := Aside0.mk (Below.refl w.heap.size w); have H : ((cask_named.f k a0_0).bind fun t108 => (if t108 = true then (if a0_1 = 1 then (cask_Check.j0 k false a0_0 a0_1 l0_2 a0_3) else (cask_Check.j0 k (a0_1 != 2) a0_0 a0_1 l0_2 a0_3)) else (some 4))) = some r := h; clear h; replace H := Option.bind_eq_some_iff.mp H; obtain ⟨t108, A20, H⟩ := H; replace H : (if t108 = true then (if a0_1 = 1 then (cask_Check.j0 k false a0_0 a0_1 l0_2 a0_3) else (cask_Check.j0 k (a0_1 != 2) a0_0 a0_1 l0_2 a0_3)) else (some 4)) = some r := H; have A2 := Aside0.mk A20; clear A20; by_cases c3 : t108 = true
 ·
  subst c3; have H1 : (if a0_1 = 1 then (cask_Check.j0 k false a0_0 a0_1 l0_2 a0_3) else (cask_Check.j0 k (a0_1 != 2) a0_0 a0_1 l0_2 a0_3)) = some r := by rw [if_pos rfl] at H; exact H
  clear H; have H := H1; clear H1; have HC4 := Aside0.mk H; clear H; go_enter Tryd.func20, Tryd.ntmps20
  go_upto_region 3 with (first | ((with_reducible refine gate_dst (N := 1) rfl ?_); refine box_event ?hg (N := 1) ?hd (cs := #[.string a0_0, .int .i64 a0_1, .slice A0_2 l0_2.length c0_2, .int .i64 a0_3]) (t := 27) ?hr ?_; (case hd => rfl); (case hg => rfl); (case hr => first | (go_simp; done) | (go_simp; rfl)); intro gb107 hg w5 hbox hb; have n0_ := Aside0.mk (below_step (by repeat (first | (with_reducible first | exact HB.out | apply below_alloc | apply pw_below_drewN | apply below_drew1) | exact HB.out)) hb); have n1_ := Aside0.mk (hbox); have n2_ := Aside0.mk ((by rw [hg]; exact (below_size (by repeat (first | (with_reducible first | exact HB.out | apply below_alloc | apply pw_below_drewN | apply below_drew1) | exact HB.out))) : w.heap.size ≤ gb107)); have n3_ := Aside0.mk ((by rw [hg]; exact (below_size (by repeat (first | (with_reducible first | exact HB.out | apply below_alloc | apply pw_below_drewN | apply below_drew1) | exact HB.out))) : w.heap.size ≤ gb107)); clear HB; have HB := n0_; have BK107 := n1_; have GW107 := n2_; have GE107 := n3_; clear n0_ n1_ n2_ n3_; clear hb hbox hg; have hcz6_0 : w5.cell? ⟨gb107, 0, none⟩ = some (.string a0_0) := (blk_cell BK107.out 0).trans rfl; have hcz6_1 : w5.cell? ⟨gb107, 1, none⟩ = some (.int .i64 a0_1) := (blk_cell BK107.out 1).trans rfl; have hcz6_2 : w5.cell? ⟨gb107, 2, none⟩ = some (.slice A0_2 l0_2.length c0_2) := (blk_cell BK107.out 2).trans rfl; have hcz6_3 : w5.cell? ⟨gb107, 3, none⟩ = some (.int .i64 a0_3) := (blk_cell BK107.out 3).trans rfl; have hfz6_0 := blk_frozen BK107.out 0; have hfz6_1 := blk_frozen BK107.out 1; have hfz6_2 := blk_frozen BK107.out 2; have hfz6_3 := blk_frozen BK107.out 3) | ((with_reducible refine gate_callee (f := 38) rfl ?_); refine goesL_ (some 6) rfl rfl Tryd.func38 (by kernel_rfl) rfl #[.string a0_0] rfl (by (try simp only [List.map_toArray, List.map_cons, List.map_nil]); first | done | rfl | (simp only [List.length_drop, List.length_take]; rfl)) ?_; (with_reducible refine (cask_named.calls k a0_0 true _ A2.out).mono ?_); rintro e w' ⟨rfl, ⟨nd, rfl⟩⟩; refine ⟨_, rfl, ?_⟩))
  (try simp only [Act.put, sIA, sC0, sCS])
  go_cut [8] (fun v8 wc => ∃ (kq : Nat) (x8_3 : Bool), v8 = .bool x8_3 ∧ Aside0 (cask_Check.j0 kq x8_3 a0_0 a0_1 l0_2 a0_3 = some r) ∧ Aside0 (kq ≤ k) ∧ Aside0 (wc.heap[gb107]? = some (.cells #[.string a0_0, .int .i64 a0_1, (.slice A0_2 l0_2.length c0_2), .int .i64 a0_3] 27 (0, 0))) ∧ Aside0 (Below w.heap.size w wc))
  case first =>
   have H := HC4.out; clear HC4; by_cases c7 : a0_1 = 1
   ·
    rw [if_pos c7] at H; have c7b0 : (a0_1 == 1) = true := beq_iff_eq.mpr c7; have c7b1 : (a0_1 != 1) = false := bne_eq_false_iff_eq.mpr c7; clear c7; (first | rw [c7b0] | (simp only [i64_w, i32_w]; rw [c7b0]) | skip)
    have H' := Aside0.mk H; clear H; have hcz8_0 : w5.cell? ⟨gb107, 0, none⟩ = some (.string a0_0) := (blk_cell BK107.out 0).trans rfl; have hcz8_1 : w5.cell? ⟨gb107, 1, none⟩ = some (.int .i64 a0_1) := (blk_cell BK107.out 1).trans rfl; have hcz8_2 : w5.cell? ⟨gb107, 2, none⟩ = some (.slice A0_2 l0_2.length c0_2) := (blk_cell BK107.out 2).trans rfl; have hcz8_3 : w5.cell? ⟨gb107, 3, none⟩ = some (.int .i64 a0_3) := (blk_cell BK107.out 3).trans rfl; have hfz8_0 := blk_frozen BK107.out 0; have hfz8_1 := blk_frozen BK107.out 1; have hfz8_2 := blk_frozen BK107.out 2; have hfz8_3 := blk_frozen BK107.out 3; go_wp2; go_meet
    case rel => exact ⟨_, (false), (by first | rfl | (simp; done) | (simp [*]; done)), H', ⟨by first | omega | exact Nat.le_refl _⟩, ⟨by (with_reducible repeat (first | refine blk_drewN ?_ _ | refine blk_drew ?_ | refine blk_alloc ?_ _)); exact BK107.out⟩, ⟨by repeat (first | (with_reducible first | exact HB.out | apply below_alloc | apply pw_below_drewN | apply below_drew1 | refine below_set ?_ GE107.out) | exact HB.out)⟩⟩
   ·
    rw [if_neg c7] at H; have c7b0 : (a0_1 == 1) = false := beq_eq_false_iff_ne.mpr c7; have c7b1 : (a0_1 != 1) = true := bne_iff_ne.mpr c7; (first | rw [c7b0] | (simp only [i64_w, i32_w]; rw [c7b0]) | skip)
    have H' := Aside0.mk H; clear H; have hcz9_0 : w5.cell? ⟨gb107, 0, none⟩ = some (.string a0_0) := (blk_cell BK107.out 0).trans rfl; have hcz9_1 : w5.cell? ⟨gb107, 1, none⟩ = some (.int .i64 a0_1) := (blk_cell BK107.out 1).trans rfl; have hcz9_2 : w5.cell? ⟨gb107, 2, none⟩ = some (.slice A0_2 l0_2.length c0_2) := (blk_cell BK107.out 2).trans rfl; have hcz9_3 : w5.cell? ⟨gb107, 3, none⟩ = some (.int .i64 a0_3) := (blk_cell BK107.out 3).trans rfl; have hfz9_0 := blk_frozen BK107.out 0; have hfz9_1 := blk_frozen BK107.out 1; have hfz9_2 := blk_frozen BK107.out 2; have hfz9_3 := blk_frozen BK107.out 3; go_wp2; go_meet
    case rel => exact ⟨_, ((a0_1 != 2)), (by first | rfl | (simp; done) | (simp [*]; done)), H', ⟨by first | omega | exact Nat.le_refl _⟩, ⟨by (with_reducible repeat (first | refine blk_drewN ?_ _ | refine blk_drew ?_ | refine blk_alloc ?_ _)); exact BK107.out⟩, ⟨by repeat (first | (with_reducible first | exact HB.out | apply below_alloc | apply pw_below_drewN | apply below_drew1 | refine below_set ?_ GE107.out) | exact HB.out)⟩⟩
  case rest =>
   clear HC4; try clear c2
   try clear p2
   try clear c3
   try clear c7
   try clear c7b0
   try clear c7b1
   try clear hcz6_0
   try clear hcz6_1
   try clear hcz6_2
   try clear hcz6_3
   try clear hcz8_0
   try clear hcz8_1
   try clear hcz8_2
   try clear hcz8_3
   try clear hcz9_0
   try clear hcz9_1
   try clear hcz9_2
   try clear hcz9_3
   try clear hfz6_0
   try clear hfz6_1
   try clear hfz6_2
   try clear hfz6_3
   try clear hfz8_0
   try clear hfz8_1
   try clear hfz8_2
   try clear hfz8_3
   try clear hfz9_0
   try clear hfz9_1
   try clear hfz9_2
   try clear hfz9_3
   obtain ⟨kq, x8_3, rfl, HA, HJ3, BK107, HB⟩ := hcut
   cases kq with
   | zero => exact absurd HA.out (by simp [cask_Check.j0])
   | succ kj3 =>
    have H := HA.out; clear HA; simp only [cask_Check.j0] at H; by_cases c10 : x8_3 = true
    ·
     subst c10; have H1 : (some 2) = some r := by rw [if_pos rfl] at H; exact H
     clear H; have H := H1; clear H1; obtain rfl := Option.some.inj H; go_wp2; go_ret
     exact ⟨by first | rfl | (simp [errW_none, errW_some] <;> rfl) | (simp [*, errW_none, errW_some] <;> rfl), by repeat (first | (with_reducible first | exact HB.out | apply below_alloc | apply pw_below_drewN | apply below_drew1 | refine below_set ?_ GE107.out) | exact HB.out)⟩
    ·
     replace c10 := Bool.eq_false_iff.mpr c10; subst c10; have H1 : (if a0_3 < 0 then (some 2) else (if a0_3 > 1073741824 then (some 2) else ((profile_Check.f kj3 l0_2).bind fun t109 => (some t109)))) = some r := by rw [if_neg (show ¬ (false = true) by decide)] at H; exact H
     clear H; have H := H1; clear H1; by_cases c11 : a0_3 < 0
     ·
      rw [if_pos c11] at H; have c11b0 : decide (a0_3 < 0) = true := decide_eq_true c11; clear c11; obtain rfl := Option.some.inj H; have hcz12_0 : wc.cell? ⟨gb107, 0, none⟩ = some (.string a0_0) := (blk_cell BK107.out 0).trans rfl; have hcz12_1 : wc.cell? ⟨gb107, 1, none⟩ = some (.int .i64 a0_1) := (blk_cell BK107.out 1).trans rfl; have hcz12_2 : wc.cell? ⟨gb107, 2, none⟩ = some (.slice A0_2 l0_2.length c0_2) := (blk_cell BK107.out 2).trans rfl; have hcz12_3 : wc.cell? ⟨gb107, 3, none⟩ = some (.int .i64 a0_3) := (blk_cell BK107.out 3).trans rfl; have hfz12_0 := blk_frozen BK107.out 0; have hfz12_1 := blk_frozen BK107.out 1; have hfz12_2 := blk_frozen BK107.out 2; have hfz12_3 := blk_frozen BK107.out 3; go_wp2; go_ret
      exact ⟨by first | rfl | (simp [errW_none, errW_some] <;> rfl) | (simp [*, errW_none, errW_some] <;> rfl), by repeat (first | (with_reducible first | exact HB.out | apply below_alloc | apply pw_below_drewN | apply below_drew1 | refine below_set ?_ GE107.out) | exact HB.out)⟩
     ·
      rw [if_neg c11] at H; have c11b0 : decide (a0_3 < 0) = false := decide_eq_false c11; clear c11; by_cases c13 : a0_3 > 1073741824
      ·
       rw [if_pos c13] at H; have c13b0 : decide (1073741824 < a0_3) = true := decide_eq_true c13; clear c13; obtain rfl := Option.some.inj H; have hcz14_0 : wc.cell? ⟨gb107, 0, none⟩ = some (.string a0_0) := (blk_cell BK107.out 0).trans rfl; have hcz14_1 : wc.cell? ⟨gb107, 1, none⟩ = some (.int .i64 a0_1) := (blk_cell BK107.out 1).trans rfl; have hcz14_2 : wc.cell? ⟨gb107, 2, none⟩ = some (.slice A0_2 l0_2.length c0_2) := (blk_cell BK107.out 2).trans rfl; have hcz14_3 : wc.cell? ⟨gb107, 3, none⟩ = some (.int .i64 a0_3) := (blk_cell BK107.out 3).trans rfl; have hfz14_0 := blk_frozen BK107.out 0; have hfz14_1 := blk_frozen BK107.out 1; have hfz14_2 := blk_frozen BK107.out 2; have hfz14_3 := blk_frozen BK107.out 3; go_wp2; go_ret
       exact ⟨by first | rfl | (simp [errW_none, errW_some] <;> rfl) | (simp [*, errW_none, errW_some] <;> rfl), by repeat (first | (with_reducible first | exact HB.out | apply below_alloc | apply pw_below_drewN | apply below_drew1 | refine below_set ?_ GE107.out) | exact HB.out)⟩
      ·
       rw [if_neg c13] at H; have c13b0 : decide (1073741824 < a0_3) = false := decide_eq_false c13; clear c13; replace H := Option.bind_eq_some_iff.mp H; obtain ⟨t109, A150, H⟩ := H; replace H : (some t109) = some r := H; have A15 := Aside0.mk A150; clear A150; obtain rfl := Option.some.inj H; have hcz16_0 : wc.cell? ⟨gb107, 0, none⟩ = some (.string a0_0) := (blk_cell BK107.out 0).trans rfl; have hcz16_1 : wc.cell? ⟨gb107, 1, none⟩ = some (.int .i64 a0_1) := (blk_cell BK107.out 1).trans rfl; have hcz16_2 : wc.cell? ⟨gb107, 2, none⟩ = some (.slice A0_2 l0_2.length c0_2) := (blk_cell BK107.out 2).trans rfl; have hcz16_3 : wc.cell? ⟨gb107, 3, none⟩ = some (.int .i64 a0_3) := (blk_cell BK107.out 3).trans rfl; have hfz16_0 := blk_frozen BK107.out 0; have hfz16_1 := blk_frozen BK107.out 1; have hfz16_2 := blk_frozen BK107.out 2; have hfz16_3 := blk_frozen BK107.out 3; go_wp2_with (first | ((with_reducible refine gate_callee (f := 39) rfl ?_); refine goesL_ (some 28) rfl rfl Tryd.func39 (by kernel_rfl) rfl #[.slice A0_2 l0_2.length c0_2] rfl (by (try simp only [List.map_toArray, List.map_cons, List.map_nil]); first | done | rfl | (simp only [List.length_drop, List.length_take]; rfl)) ?_; (with_reducible refine (profile_Check.calls kj3 _ _ l0_2 t109 _ ?side1 ?side2 A15.out).mono ?_); (case side1 => repeat (first | exact (Kd.C_below HR0_2.out HB.out) | (with_reducible refine Kd.C_alloc ?_ _) | (with_reducible refine Kd.C_drewN ?_ _) | (with_reducible refine Kd.C_drew ?_))); (case side2 => exact HC0_2.out); rintro e w17 ⟨rfl, hb⟩; refine ⟨_, rfl, ?_⟩; have n0_ := Aside0.mk (blk_below (g := gb107) (o := .cells #[.string a0_0, .int .i64 a0_1, .slice A0_2 l0_2.length c0_2, .int .i64 a0_3] 27 (0, 0)) (by (with_reducible repeat (first | refine blk_drewN ?_ _ | refine blk_drew ?_ | refine blk_alloc ?_ _)); exact BK107.out) hb); have n1_ := Aside0.mk (below_step (by repeat (first | (with_reducible first | exact HB.out | apply below_alloc | apply pw_below_drewN | apply below_drew1 | refine below_set ?_ GE107.out) | exact HB.out)) hb); clear BK107; clear HB; have BK107 := n0_; have HB := n1_; clear n0_ n1_; (try clear hb); (try clear hb2); (try clear hk); (try clear hi)))
       go_ret
       exact ⟨by first | rfl | (simp [errW_none, errW_some] <;> rfl) | (simp [*, errW_none, errW_some] <;> rfl), by repeat (first | (with_reducible first | exact HB.out | apply below_alloc | apply pw_below_drewN | apply below_drew1 | refine below_set ?_ GE107.out) | exact HB.out)⟩
 ·
  replace c3 := Bool.eq_false_iff.mpr c3; subst c3; have H1 : (some 4) = some r := by rw [if_neg (show ¬ (false = true) by decide)] at H; exact H
  clear H; have H := H1; clear H1; obtain rfl := Option.some.inj H; go_enter Tryd.func20, Tryd.ntmps20
  go_wp2_with (first | ((with_reducible refine gate_dst (N := 1) rfl ?_); refine box_event ?hg (N := 1) ?hd (cs := #[.string a0_0, .int .i64 a0_1, .slice A0_2 l0_2.length c0_2, .int .i64 a0_3]) (t := 27) ?hr ?_; (case hd => rfl); (case hg => rfl); (case hr => first | (go_simp; done) | (go_simp; rfl)); intro gb107 hg w18 hbox hb; have n0_ := Aside0.mk (below_step (by repeat (first | (with_reducible first | exact HB.out | apply below_alloc | apply pw_below_drewN | apply below_drew1) | exact HB.out)) hb); have n1_ := Aside0.mk (hbox); have n2_ := Aside0.mk ((by rw [hg]; exact (below_size (by repeat (first | (with_reducible first | exact HB.out | apply below_alloc | apply pw_below_drewN | apply below_drew1) | exact HB.out))) : w.heap.size ≤ gb107)); have n3_ := Aside0.mk ((by rw [hg]; exact (below_size (by repeat (first | (with_reducible first | exact HB.out | apply below_alloc | apply pw_below_drewN | apply below_drew1) | exact HB.out))) : w.heap.size ≤ gb107)); clear HB; have HB := n0_; have BK107 := n1_; have GW107 := n2_; have GE107 := n3_; clear n0_ n1_ n2_ n3_; clear hb hbox hg; have hcz19_0 : w18.cell? ⟨gb107, 0, none⟩ = some (.string a0_0) := (blk_cell BK107.out 0).trans rfl; have hcz19_1 : w18.cell? ⟨gb107, 1, none⟩ = some (.int .i64 a0_1) := (blk_cell BK107.out 1).trans rfl; have hcz19_2 : w18.cell? ⟨gb107, 2, none⟩ = some (.slice A0_2 l0_2.length c0_2) := (blk_cell BK107.out 2).trans rfl; have hcz19_3 : w18.cell? ⟨gb107, 3, none⟩ = some (.int .i64 a0_3) := (blk_cell BK107.out 3).trans rfl; have hfz19_0 := blk_frozen BK107.out 0; have hfz19_1 := blk_frozen BK107.out 1; have hfz19_2 := blk_frozen BK107.out 2; have hfz19_3 := blk_frozen BK107.out 3) | ((with_reducible refine gate_callee (f := 38) rfl ?_); refine goesL_ (some 6) rfl rfl Tryd.func38 (by kernel_rfl) rfl #[.string a0_0] rfl (by (try simp only [List.map_toArray, List.map_cons, List.map_nil]); first | done | rfl | (simp only [List.length_drop, List.length_take]; rfl)) ?_; (with_reducible refine (cask_named.calls k a0_0 false _ A2.out).mono ?_); rintro e w' ⟨rfl, ⟨nd, rfl⟩⟩; refine ⟨_, rfl, ?_⟩))
  go_ret
  exact ⟨by first | rfl | (simp [errW_none, errW_some] <;> rfl) | (simp [*, errW_none, errW_some] <;> rfl), by repeat (first | (with_reducible first | exact HB.out | apply below_alloc | apply pw_below_drewN | apply below_drew1 | refine below_set ?_ GE107.out) | exact HB.out)⟩
end Go.Proofs.YtnhmlneebnkjcaaDoor.Pr
namespace Go.Proofs.YtnhmlneebnkjcaaDoor.X
open Go Go.Maps Go.WideMaps
/-- What a map holds: the keys of a list, each with true. -/
def IsSetS (D : DataW Unit) (s : List (List UInt8)) : Prop := IsMap D ∧ ∀ f : List UInt8, D.atKey (.string f) (.lit (.bool false)) = .lit (.bool (decide (f ∈ s)))
theorem isSetS_nil : IsSetS (.map [] : DataW Unit) [] := ⟨isMap_empty, fun f => rfl⟩
theorem IsSetS.put {D : DataW Unit} {s : List (List UInt8)} (h : IsSetS D s) (f : List UInt8) : IsSetS (D.put (.string f) (.lit (.bool true))) (f :: s) := by
  refine ⟨h.1.put _ _, fun g => ?_⟩
  by_cases c : g = f
  · subst c
    rw [atKey_put_same h.1 (show WideAt.IsKeyLit (.string g) from trivial)]
    rw [decide_eq_true (List.mem_cons_self ..)]
  · rw [atKey_put_other (fun e => c (by injection e)), h.2 g]
    rw [show decide (g ∈ s) = decide (g ∈ f :: s) from decide_eq_decide.2 ⟨fun q => List.mem_cons_of_mem _ q, fun q => by
      rcases List.mem_cons.1 q with q | q
      · exact absurd q c
      · exact q⟩]
section
variable {P : Program} (w : World) {ops : Array Oper} {rest : List Oper} {o : Oper} {a : Act} {Q : Exit → Act → World → Prop}
/-- 'm[s]' in such a map. -/
theorem look_set {w : World} {t k e : TypeId} (ht : P.underlying t = some (.map k e)) (hk : P.underlying k = some .string) (hz : (zeroValue e).run P w = .ok (.bool false) w) {b n : Nat} {D : DataW Unit} {s : List (List UInt8)}
    (hown : w.ownsMap P k boolE b n D) (hs : IsSetS D s) (x : ByteArray) (hx : x.size ≤ maxLen) :
    (Instr.lookup t (.map (some b)) (.string x) false).run P w = .ok (.bool (decide (x.data.toList ∈ s))) w := by
  obtain ⟨v, ps, hrun, hv⟩ := hown.lookup (string_keyed hk) ht hz (show boolE (.bool false) = some (.lit (.bool false), []) from rfl) (keyOf_string_mk hk hx)
  rw [hs.2] at hv
  rw [hrun, boolE_enc hv]
/-- 'm[s] = true'. -/
theorem wpList_store_str (hg : o.guard = none) (m x v : Operand) (t : TypeId) (hop : o.op = Op.mapUpdate t m x v) (k e : TypeId) (hk : P.underlying k = some .string) (ht : P.underlying t = some (.map k e)) (b n : Nat) (D : DataW Unit) (s : List (List UInt8))
    (hm : a.eval m = .map (some b)) (hown : w.ownsMap P k boolE b n D) (hs : IsSetS D s) (hn : n < maxLen) (f : ByteArray) (hf : f.size ≤ maxLen) (hx : a.eval x = .string f) (hv : a.eval v = .bool true)
    (hK : ∀ w' D', w'.ownsMap P k boolE b (n + 1) D' → IsSetS D' (f.data.toList :: s) → w.grownBy w' (some b) → wpList P ops Q rest (a.put o.dst undef) w') :
    wpList P ops Q (o :: rest) a w :=
  wpList_mapUpdate_own w hg m x v t hop k e (string_keyed hk) ht boolE b n D hm hown hn (.string f) (.bool true) (.string f.data.toList) hx hv (keyOf_string_mk hk hf) (.lit (.bool true)) [] rfl
    (fun w' h1 h2 => hK w' _ h1 (hs.put _) h2)
end
end Go.Proofs.YtnhmlneebnkjcaaDoor.X
