/-
A part of what these laws rest on: contracts of the functions that they reach, and plain lemmas.
-/
import Derived.Test.YtgjoenoknknoiaaDoorProg
import Derived.ChangeArms
import Derived.DataReads
import Derived.Lib.LaidTab
import Derived.Lib.SmallJoins
import Derived.Carry
import Derived.Test.YtgjoenoknknoiaaDoorRows
import Derived.Lib.ItoaNum
import Derived.Shelf.Strings.Builder1
import Derived.Shelf.Strings.BuilderF
import Derived.Shelf.Strings.BuilderK
import Derived.Shelf.Utf8.RuneCount
import Derived.Shelf.Strconv.Atoi
import Derived.Shelf.Strconv.Itoa0
import Derived.Shelf.Strconv.Itoa1
import Derived.Shelf.LaysM
import Derived.Shelf.Strconv.Itoa2
import Derived.Shelf.Strconv.Itoa3
import Derived.Shelf.Strconv.AtoiErrFast
import Derived.Shelf.Strconv.ParseIntEmpty
import Derived.Shelf.Strconv.AtoiFail
import Derived.Shelf.Strconv.Clone
import Derived.Shelf.Strconv.SyntaxError
import Derived.Shelf.LaysC
import Derived.Shelf.Strconv.ToError
import Derived.Shelf.Strconv.Lower
import Derived.Shelf.Strconv.ParseUint10
import Derived.Shelf.Strconv.ParseUint10Empty
import Derived.Shelf.Strconv.ParseUint10Any
import Derived.Shelf.Strconv.ParseInt10
import Derived.Shelf.Strconv.AtoiLong
import Derived.Shelf.Strconv.AtoiInnerAll
import Derived.Shelf.Strconv.RangeError
import Derived.Shelf.Strconv.ToErrorRange
import Derived.Shelf.Strconv.AtoiAll
import Derived.Shelf.Strconv.ErrVarAll
import Derived.Shelf.Strings.Search1
import Derived.Shelf.Strings.Search2
import Derived.Shelf.Strings.Search3
import Derived.Shelf.Strings.Cut
import Derived.Shelf.Strings.Count
import Derived.Shelf.Strings.Shaped
import Derived.Shelf.Strings.Split
import Derived.Shelf.Strings.SplitShaped
import Derived.Shelf.Unicode.Decode
import Derived.Shelf.Strings.RuneCount
import Derived.Shelf.Strings.Explode
import Derived.Shelf.Unicode.DecodeSlow
import Derived.Shelf.Unicode.DecodeAny
import Derived.Test.YtgjoenoknknoiaaDoorLotOwnA
set_option linter.unusedVariables false
set_option linter.unusedSimpArgs false
namespace Go.Proofs.YtgjoenoknknoiaaDoor.Pr
open Go.RowKit Go.Proofs.YtgjoenoknknoiaaDoorW.PrintWords Go.Proofs.YtgjoenoknknoiaaDoorW.PrintLast Go.Proofs.YtgjoenoknknoiaaDoorW.PrintMore
attribute [local go_sem] max2_int min2_int max_two min_two max_three min_three max_four min_four   -- for this text's walks alone
set_option linter.unusedVariables false
set_option linter.unusedSimpArgs false
def errW : Option Int → Value
 | none => .nilIface
 | some c => .iface 0 (.int .i64 c)
theorem errW_none : errW none = .nilIface := rfl
theorem errW_some (c : Int) : errW (some c) = .iface 0 (.int .i64 c) := rfl
theorem info33 : (Tryd.prog.info? 33).map (fun i => (i.zero, i.size, i.bytes)) = some (some (.agg #[(.int .i64 0), (.int .i64 0), (.int .i64 0), (.slice none 0 0)]), 4, 48) := by kernel_rfl
theorem info35 : (Tryd.prog.info? 35).map (fun i => (i.zero, i.size, i.bytes)) = some (some (.agg #[(.int .i64 0), (.int .i64 0)]), 2, 16) := by kernel_rfl
structure S26 where
 f0 : Int
 f1 : Int
def z26 : S26 := ⟨(0 : Int), (0 : Int)⟩
def k26 : Kd S26 := Kd.iso (Kd.pair (Kd.int .i64) (Kd.int .i64)) (fun x : S26 => (x.f0, x.f1))
theorem k26_heap : Kd.Heap k26 := Kd.heap_iso _ (Kd.heap_pair (Kd.heap_int .i64) (Kd.heap_int .i64))
theorem k26_open {w : World} {x : S26} {cs : List Value} (h : k26.K w x cs) : cs = [.int .i64 x.f0, .int .i64 x.f1] := by
 obtain ⟨_, _, rfl, rfl, rfl⟩ := h
 exact rfl
theorem k26_openM {w : World} {base : Nat} {ok : Nat → Prop} {x : S26} {cs : List Value} (h : k26.M w base ok x cs) : cs = [.int .i64 x.f0, .int .i64 x.f1] := by
 obtain ⟨_, _, rfl, rfl, rfl⟩ := h
 exact rfl
theorem k26_mk (w : World) (x : S26)  : k26.K w x [.int .i64 x.f0, .int .i64 x.f1] := ⟨[.int .i64 x.f0], [.int .i64 x.f1], rfl, rfl, rfl⟩
theorem k26_mkM (w : World) (base : Nat) (ok : Nat → Prop) (x : S26)  : k26.M w base ok x [.int .i64 x.f0, .int .i64 x.f1] := ⟨[.int .i64 x.f0], [.int .i64 x.f1], rfl, rfl, rfl⟩
def rd_T26 (xs : List S26) (i : Int) : S26 := xs.getD i.toNat z26
theorem at_T26 {w : World} {A : Option Addr} {n : Nat} {xs : List S26} (h : Kd.C k26 w A n xs) (i : Int) (h0 : 0 ≤ i) (h1 : i < n) : ∃ ad , A = some ad ∧ w.cell? (ad.add (i.toNat * 2)) = some (.int .i64 (rd_T26 xs i).f0) ∧ w.cell? ⟨(ad.add (i.toNat * 2)).block, (ad.add (i.toNat * 2)).off + 1, none⟩ = some (.int .i64 (rd_T26 xs i).f1) := by
 obtain ⟨ad, c, e, _, hK, hc0⟩ := Kd.C_get h z26 i h0 h1
 have hc : ∀ j u, c[j]? = some u → w.cell? (ad.add (i.toNat * 2 + j)) = some u := hc0
 obtain rfl := k26_open hK
 exact ⟨ad, e, hc 0 _ rfl, by rw [← add_field _ _ 1 (by omega)]; exact hc 1 _ rfl⟩
structure S35 where
 f0 : Int
 f1 : Int
def z35 : S35 := ⟨(0 : Int), (0 : Int)⟩
def k35 : Kd S35 := Kd.iso (Kd.pair (Kd.int .i64) (Kd.int .i64)) (fun x : S35 => (x.f0, x.f1))
theorem k35_heap : Kd.Heap k35 := Kd.heap_iso _ (Kd.heap_pair (Kd.heap_int .i64) (Kd.heap_int .i64))
theorem k35_open {w : World} {x : S35} {cs : List Value} (h : k35.K w x cs) : cs = [.int .i64 x.f0, .int .i64 x.f1] := by
 obtain ⟨_, _, rfl, rfl, rfl⟩ := h
 exact rfl
theorem k35_openM {w : World} {base : Nat} {ok : Nat → Prop} {x : S35} {cs : List Value} (h : k35.M w base ok x cs) : cs = [.int .i64 x.f0, .int .i64 x.f1] := by
 obtain ⟨_, _, rfl, rfl, rfl⟩ := h
 exact rfl
theorem k35_mk (w : World) (x : S35)  : k35.K w x [.int .i64 x.f0, .int .i64 x.f1] := ⟨[.int .i64 x.f0], [.int .i64 x.f1], rfl, rfl, rfl⟩
theorem k35_mkM (w : World) (base : Nat) (ok : Nat → Prop) (x : S35)  : k35.M w base ok x [.int .i64 x.f0, .int .i64 x.f1] := ⟨[.int .i64 x.f0], [.int .i64 x.f1], rfl, rfl, rfl⟩
def rd_T35 (xs : List S35) (i : Int) : S35 := xs.getD i.toNat z35
theorem at_T35 {w : World} {A : Option Addr} {n : Nat} {xs : List S35} (h : Kd.C k35 w A n xs) (i : Int) (h0 : 0 ≤ i) (h1 : i < n) : ∃ ad , A = some ad ∧ w.cell? (ad.add (i.toNat * 2)) = some (.int .i64 (rd_T35 xs i).f0) ∧ w.cell? ⟨(ad.add (i.toNat * 2)).block, (ad.add (i.toNat * 2)).off + 1, none⟩ = some (.int .i64 (rd_T35 xs i).f1) := by
 obtain ⟨ad, c, e, _, hK, hc0⟩ := Kd.C_get h z35 i h0 h1
 have hc : ∀ j u, c[j]? = some u → w.cell? (ad.add (i.toNat * 2 + j)) = some u := hc0
 obtain rfl := k35_open hK
 exact ⟨ad, e, hc 0 _ rfl, by rw [← add_field _ _ 1 (by omega)]; exact hc 1 _ rfl⟩
structure S33 where
 f0 : Int
 f1 : S26
 f2 : (List S35)
def z33 : S33 := ⟨(0 : Int), z26, ([] : List S35)⟩
def k33 : Kd S33 := Kd.iso (Kd.pair (Kd.int .i64) (Kd.pair k26 (Kd.slice 35 k35))) (fun x : S33 => (x.f0, x.f1, x.f2))
theorem k33_heap : Kd.Heap k33 := Kd.heap_iso _ (Kd.heap_pair (Kd.heap_int .i64) (Kd.heap_pair k26_heap (Kd.heap_slice 35 k35_heap)))
theorem k33_open {w : World} {x : S33} {cs : List Value} (h : k33.K w x cs) : ∃ A3 c3, cs = [.int .i64 x.f0, .int .i64 x.f1.f0, .int .i64 x.f1.f1, .slice A3 x.f2.length c3] ∧ x.f2.length ≤ c3 ∧ k35.C w A3 x.f2.length x.f2 := by
 obtain ⟨_, _, rfl, rfl, ⟨_, _, rfl, s1, ⟨A3, c3, rfl, l3, g3⟩⟩⟩ := h
 obtain rfl := k26_open s1
 exact ⟨A3, c3, rfl, l3, g3⟩
theorem k33_openM {w : World} {base : Nat} {ok : Nat → Prop} {x : S33} {cs : List Value} (h : k33.M w base ok x cs) : ∃ v3, cs = [.int .i64 x.f0, .int .i64 x.f1.f0, .int .i64 x.f1.f1, v3] ∧ k35.R 35 w base ok v3 x.f2 := by
 obtain ⟨_, _, rfl, rfl, ⟨_, _, rfl, s1, ⟨v3, rfl, g3⟩⟩⟩ := h
 obtain rfl := k26_openM s1
 exact ⟨v3, rfl, g3⟩
theorem k33_mk (w : World) (x : S33) {A3 : Option Addr} {c3 : Nat} (l3 : x.f2.length ≤ c3) (g3 : k35.C w A3 x.f2.length x.f2) : k33.K w x [.int .i64 x.f0, .int .i64 x.f1.f0, .int .i64 x.f1.f1, .slice A3 x.f2.length c3] := ⟨[.int .i64 x.f0], [.int .i64 x.f1.f0, .int .i64 x.f1.f1, .slice A3 x.f2.length c3], rfl, rfl, ⟨[.int .i64 x.f1.f0, .int .i64 x.f1.f1], [.slice A3 x.f2.length c3], rfl, (k26_mk w x.f1 ), ⟨A3, c3, rfl, l3, g3⟩⟩⟩
theorem k33_mkM (w : World) (base : Nat) (ok : Nat → Prop) (x : S33) {v3 : Value} (g3 : k35.R 35 w base ok v3 x.f2) : k33.M w base ok x [.int .i64 x.f0, .int .i64 x.f1.f0, .int .i64 x.f1.f1, v3] := ⟨[.int .i64 x.f0], [.int .i64 x.f1.f0, .int .i64 x.f1.f1, v3], rfl, rfl, ⟨[.int .i64 x.f1.f0, .int .i64 x.f1.f1], [v3], rfl, (k26_mkM w base ok x.f1 ), ⟨v3, rfl, g3⟩⟩⟩
theorem k33_openF {W : World} {ok : Nat → Prop} {x : S33} {cs : List Value} (h : Kd.FK k33 W ok x cs) : ∃ A3 c3, cs = [.int .i64 x.f0, .int .i64 x.f1.f0, .int .i64 x.f1.f1, .slice A3 x.f2.length c3] ∧ x.f2.length ≤ c3 ∧ Kd.F k35 W ok A3 x.f2.length x.f2 := by
 obtain ⟨A3, c3, rfl, l3, _⟩ := k33_open (Kd.FK_now h)
 exact ⟨A3, c3, rfl, l3, (fun W' hW => by obtain ⟨A3_, c3_, he, l3_, g3_⟩ := k33_open (h W' hW); injection (Option.some.inj (show some (Value.slice A3 x.f2.length c3) = some (Value.slice A3_ x.f2.length c3_) from congrArg (fun l => l[3]?) he)) with ha_ _ _; rw [ha_]; exact g3_)⟩
def rd_T33 (xs : List S33) (i : Int) : S33 := xs.getD i.toNat z33
theorem at_T33 {w : World} {A : Option Addr} {n : Nat} {xs : List S33} (h : Kd.C k33 w A n xs) (i : Int) (h0 : 0 ≤ i) (h1 : i < n) : ∃ ad A3 c3, A = some ad ∧ w.cell? (ad.add (i.toNat * 4)) = some (.int .i64 (rd_T33 xs i).f0) ∧ w.cell? ⟨(ad.add (i.toNat * 4)).block, (ad.add (i.toNat * 4)).off + 1, none⟩ = some (.int .i64 (rd_T33 xs i).f1.f0) ∧ w.cell? ⟨(ad.add (i.toNat * 4)).block, (ad.add (i.toNat * 4)).off + 2, none⟩ = some (.int .i64 (rd_T33 xs i).f1.f1) ∧ w.cell? ⟨(ad.add (i.toNat * 4)).block, (ad.add (i.toNat * 4)).off + 3, none⟩ = some (.slice A3 (rd_T33 xs i).f2.length c3) ∧ (rd_T33 xs i).f2.length ≤ c3 ∧ k35.C w A3 (rd_T33 xs i).f2.length (rd_T33 xs i).f2 := by
 obtain ⟨ad, c, e, _, hK, hc0⟩ := Kd.C_get h z33 i h0 h1
 have hc : ∀ j u, c[j]? = some u → w.cell? (ad.add (i.toNat * 4 + j)) = some u := hc0
 obtain ⟨A3, c3, rfl, l3, g3⟩ := k33_open hK
 exact ⟨ad, A3, c3, e, hc 0 _ rfl, by rw [← add_field _ _ 1 (by omega)]; exact hc 1 _ rfl, by rw [← add_field _ _ 2 (by omega)]; exact hc 2 _ rfl, by rw [← add_field _ _ 3 (by omega)]; exact hc 3 _ rfl, l3, g3⟩
end Go.Proofs.YtgjoenoknknoiaaDoor.Pr
namespace Go.Proofs.YtgjoenoknknoiaaDoor.O
open Go Go.RowKit Go.Proofs.YtgjoenoknknoiaaDoorW.PrintWords
/-- What reads as data at type t reads as a value of kind d that is ok. -/
def Opens {α : Type} (P : Program) (t : TypeId) (d : Kd α) (ok : α → Prop) : Prop :=
  P.cellsOf t = d.sz ∧ ∀ (H : Type) (enc : TypeId × Value → H) (w : World) (base : Nat) (sp : Nat → Bool) (held : Bool) (fuel : Nat) (cs : List Value) (x : DataW H × List MemPlace),
    DataW.trod enc P w base sp held fuel t cs = some x → ∃ v : α, d.K w v cs ∧ ok v
theorem opens_int {P : Program} {t : TypeId} {k : IntKind} (ht : P.underlying t = some (.int k)) (hc : P.cellsOf t = 1) : Opens P t (Kd.int k) (fun x => (Lit.int k x).wf = true) :=
  ⟨hc, fun H enc w base sp held fuel cs x h => by
    obtain ⟨n, rfl, _, hw⟩ := DataW.trod_int ht h
    exact ⟨n, rfl, hw⟩⟩
theorem choose_list {α : Type} (n : Nat) (p : Nat → α → Prop) (h : ∀ i, i < n → ∃ v, p i v) : ∃ vs : List α, vs.length = n ∧ ∀ i v, vs[i]? = some v → p i v := by
  induction n with
  | zero => exact ⟨[], rfl, fun i v hv => by simp at hv⟩
  | succ n ih =>
    obtain ⟨vs, hl, hp⟩ := ih (fun i hi => h i (by omega))
    obtain ⟨v, hv⟩ := h n (by omega)
    refine ⟨vs ++ [v], by simp [hl], fun i u hu => ?_⟩
    rcases Nat.lt_or_ge i n with hi | hi
    · rw [List.getElem?_append_left (by omega)] at hu
      exact hp i u hu
    · rw [List.getElem?_append_right (by omega)] at hu
      have hi0 : i = n := by
        have := (List.getElem?_eq_some_iff.1 hu).1
        simp at this
        omega
      subst hi0
      rw [hl] at hu
      simp at hu
      subst hu
      exact hv
theorem opens_slice {α : Type} {P : Program} {t e : TypeId} {d : Kd α} {ok : α → Prop} (ht : P.underlying t = some (.slice e)) (hc : P.cellsOf t = 1) (hO : Opens P e d ok) :
    Opens P t (Kd.slice e d) (fun xs => xs.length ≤ maxLen ∧ ∀ x, x ∈ xs → ok x) :=
  ⟨hc, fun H enc w base sp held fuel cs x h => by
    rcases DataW.trod_slice ht h with ⟨rfl, _⟩ | ⟨a, len, cap, elems, rest, n, _, rfl, _, hb, hl, hm, hel, hget, _, _⟩
    · exact ⟨[], ⟨none, 0, rfl, Nat.le_refl _, rfl, by simp, fun h0 => absurd h0 (by simp)⟩, by simp, fun x hx => absurd hx (by simp)⟩
    · obtain ⟨vs, hvl, hv⟩ := choose_list len (fun i v => (∃ c, c.length = d.sz ∧ d.K w v c ∧ ∀ j u, c[j]? = some u → w.cell? (a.add (i * d.sz + j)) = some u) ∧ ok v) (fun i hi => by
        have hg := hget i hi
        obtain ⟨y, hy⟩ : ∃ y, elems[i]? = some y := ⟨elems[i]'(by omega), List.getElem?_eq_getElem (by omega)⟩
        rw [hy] at hg
        obtain ⟨c, hcs, htr⟩ := Option.bind_eq_some_iff.1 hg
        obtain ⟨v, hK, hok⟩ := hO.2 H enc w base sp held n c y htr
        obtain ⟨_, hcl, hcell⟩ := World.cells?_some hcs
        refine ⟨v, ⟨c, by rw [hcl, hO.1], hK, fun j u hj => ?_⟩, hok⟩
        have hjl : j < P.cellsOf e := by
          rw [← hcl]
          exact (List.getElem?_eq_some_iff.1 hj).1
        rw [← hO.1, ← Addr.add_add, hcell j hjl, hj])
      have hmx : len ≤ 9223372036854775807 := by
        have : len ≤ maxLen := by omega
        simpa [maxLen] using this
      refine ⟨vs, ⟨some a, cap, by rw [hvl], by omega, rfl, by omega, fun _ => ⟨a, rfl, fun j p hp => ?_⟩⟩, by omega, fun x hx => ?_⟩
      · exact (hv j p hp).1
      · obtain ⟨i, hi⟩ := List.mem_iff_getElem?.1 hx
        exact (hv i x hi).2⟩
/-- One of the listed variables. -/
theorem laidVars_mem {P : Program} {w : World} {name : String} {d : DataW Unit} : ∀ (l : List (String × DataW Unit)) (ps : List MemPlace), DataW.LaidVars P w l ps → (name, d) ∈ l →
    ∃ g t cs fuel p, P.globalNamed name = some g ∧ (P.globals[g]?).map (·.type) = some t ∧ w.var? P name = some cs ∧ DataW.trod (fun _ => ()) P w 0 (fun _ => true) false fuel t cs.toList = some (d, p)
  | [], _, _, hm => absurd hm (by simp)
  | (n, e) :: r, ps, h, hm => by
    obtain ⟨g, t, cs, fuel, p, q, hg, ht, hv, hd, hr, _⟩ := h
    rcases List.mem_cons.1 hm with hx | hx
    · injection hx with h1 h2
      subst h1
      subst h2
      exact ⟨g, t, cs, fuel, p, hg, ht, hv, hd⟩
    · exact laidVars_mem r q hr hx
theorem tab_of_laid {P : Program} {W : World} {name : String} {k : IntKind} {zs : List Int} {laid : List (String × DataW Unit)} {g : Nat} {t e : TypeId} {n : Nat}
    (hg : P.globalNamed name = some g) (hty : (P.globals[g]?).map (·.type) = some t) (ht : P.underlying t = some (.array n e)) (he : P.underlying e = some (.int k)) (hce : P.cellsOf e = 1) (hct : P.cellsOf t = n)
    (h : laidMet P laid W) (hm : (name, Lib.tabData k zs) ∈ laid) : Lib.TabIs P W name k zs := by
  obtain ⟨ps, hl, _⟩ := h
  obtain ⟨g', t', cs, fuel, p, hg', ht', hvar, hd⟩ := laidVars_mem laid ps hl hm
  obtain rfl := Option.some.inj (hg.symm.trans hg')
  obtain rfl := Option.some.inj (hty.symm.trans ht')
  unfold Lib.TabIs
  rw [hvar, ← Lib.cells_of_tab ht he hce hct hd]
end Go.Proofs.YtgjoenoknknoiaaDoor.O
namespace Go.Proofs.YtgjoenoknknoiaaDoor.X
open Go Go.RowKit
/-- What a variable holds stays where all that lay stays. -/
theorem var_below {P : Program} {w w' : World} {name : String} {cs : Array Value} (h : w.var? P name = some cs) (hb : Below w.heap.size w w') : w'.var? P name = some cs := by
  unfold World.var? at *
  cases hg : P.globalNamed name with
  | none => simp [hg] at h
  | some g =>
    simp only [hg, Option.bind_some] at h ⊢
    have hlt : g < w.heap.size := by
      rcases Nat.lt_or_ge g w.heap.size with h' | h'
      · exact h'
      · rw [Array.getElem?_eq_none h'] at h; simp at h
    rw [hb.block g hlt]
    exact h
theorem cell_off {w : World} {b i j : Nat} {x : Value} (h : j ≠ i) : (w.setCell ⟨b, j, none⟩ x).cell? ⟨b, i, none⟩ = w.cell? ⟨b, i, none⟩ :=
  World.cell?_setCell_other _ _ _ _ (fun e => h (congrArg Addr.off e))
/-- The table of the powers of ten. -/
def GI (w : World) : Prop := Lib.TabIs Tryd.prog w "internal/strconv.uint64pow10" .u64 Lib.pow10Tab
theorem GI.below {w w' : World} (h : GI w) (hb : Below w.heap.size w w') : GI w' := var_below h hb
theorem GI.drewN {w : World} (h : GI w) (n : Nat) : GI (w.drewN n) := h
theorem GI.drew {w : World} (h : GI w) : GI w.drew := h
theorem GI.of_laid {W : World} (laid : List (String × DataW Unit)) (hm : ("internal/strconv.uint64pow10", Rows.laid_internal_strconv_uint64pow10) ∈ laid) (h : laidMetH Tryd.prog laid W) (hp : (laid.filter fun x => x.2.handleName?.isSome) = [] := by kernel_rfl) : GI W := by
  unfold laidMetH at h
  rw [hp] at h
  exact O.tab_of_laid (g := 1) (t := 116) (e := 106) (n := 20) (by kernel_rfl) (by kernel_rfl) Tryd.underlying116 Tryd.underlying106 (by kernel_rfl) (by kernel_rfl) h hm
end Go.Proofs.YtgjoenoknknoiaaDoor.X
namespace Go.Proofs.YtgjoenoknknoiaaDoor.X
open Go Go.RowKit Go.Proofs.YtgjoenoknknoiaaDoorW.PrintWords Go.Proofs.YtgjoenoknknoiaaDoorW.PrintLast Go.Proofs.YtgjoenoknknoiaaDoorW.PrintMore Go.Proofs.YtgjoenoknknoiaaDoor.Pr
theorem lit_lot {w : World} {A : Option Addr} {c : Nat} {l : List S35} (a b d : Int) (hC : Kd.C k35 w A l.length l) (hc : l.length ≤ c) :
    Kd.C k33 (w.alloc (.cells #[.int .i64 a, .int .i64 b, .int .i64 d, .slice A l.length c] 33)) (some ⟨w.heap.size, 0, none⟩) 1 [(⟨a, (⟨b, d⟩ : S26), l⟩ : S33)] := by
  refine ⟨rfl, by decide, fun _ => ⟨_, rfl, fun j p hj => ?_⟩⟩
  cases j with
  | succ j => simp at hj
  | zero =>
    obtain rfl : (⟨a, (⟨b, d⟩ : S26), l⟩ : S33) = p := by simpa using hj
    refine ⟨[.int .i64 a, .int .i64 b, .int .i64 d, .slice A l.length c], rfl, k33_mk _ _ hc (Kd.C_alloc hC _), fun i u hu => ?_⟩
    rw [Nat.zero_mul, Nat.zero_add, Addr.add_lit, Nat.zero_add, World.cell?_alloc_at (w := w) _ _ w.heap.size i rfl]
    simpa using hu
end Go.Proofs.YtgjoenoknknoiaaDoor.X
namespace Go.Proofs.YtgjoenoknknoiaaDoor.Pr
open Go.RowKit Go.Proofs.YtgjoenoknknoiaaDoorW.PrintWords Go.Proofs.YtgjoenoknknoiaaDoorW.PrintLast Go.Proofs.YtgjoenoknknoiaaDoorW.PrintMore Go.Proofs.YtgjoenoknknoiaaDoor.X
attribute [local go_sem] max2_int min2_int max_two min_two max_three min_three max_four min_four   -- for this text's walks alone
set_option linter.unusedVariables false
set_option linter.unusedSimpArgs false
def mix_plain.f (a0_0 : Int) (a0_1 : Int) : Option (Bool) := if a0_0 ≥ 0 then (if a0_0 ≤ 10737418240000 then (if a0_1 ≥ 0 then (if a0_1 ≤ 128849018880000 then (if a0_1 > 0 then (some true) else (some (a0_0 == 0))) else (some false)) else (some false)) else (some false)) else (some false)
set_option maxHeartbeats 8000000 in
set_option maxRecDepth 100000 in
theorem mix_plain.calls (a0_0 : Int) (a0_1 : Int) (r : Bool) (w : World) (h : mix_plain.f a0_0 a0_1 = some r) :
  Calls Tryd.prog 71 #[.agg #[.int .i64 a0_0, .int .i64 a0_1]] w fun e w' => e = .returned (.bool r) ∧ Below w.heap.size w w' := by
 have hu26 := Tryd.underlying26; have HB := Aside0.mk (Below.refl w.heap.size w); have H : (if a0_0 ≥ 0 then (if a0_0 ≤ 10737418240000 then (if a0_1 ≥ 0 then (if a0_1 ≤ 128849018880000 then (if a0_1 > 0 then (some true) else (some (a0_0 == 0))) else (some false)) else (some false)) else (some false)) else (some false)) = some r := h; clear h; by_cases c2 : a0_0 ≥ 0
 ·
  rw [if_pos c2] at H; have c2b0 : decide (0 ≤ a0_0) = true := decide_eq_true c2; clear c2; by_cases c3 : a0_0 ≤ 10737418240000
  ·
   rw [if_pos c3] at H; have c3b0 : decide (a0_0 ≤ 10737418240000) = true := decide_eq_true c3; clear c3; by_cases c4 : a0_1 ≥ 0
   ·
    rw [if_pos c4] at H; have c4b0 : decide (0 ≤ a0_1) = true := decide_eq_true c4; clear c4; by_cases c5 : a0_1 ≤ 128849018880000
    ·
     rw [if_pos c5] at H; have c5b0 : decide (a0_1 ≤ 128849018880000) = true := decide_eq_true c5; clear c5; by_cases c6 : a0_1 > 0
     ·
      rw [if_pos c6] at H; have c6b0 : decide (0 < a0_1) = true := decide_eq_true c6; clear c6; obtain rfl := Option.some.inj H; go_enter Tryd.func71, Tryd.ntmps71
      go_wp2_with (first | ((with_reducible refine gate_dst (N := 1) rfl ?_); refine box_event ?hg (N := 1) ?hd (cs := #[.int .i64 a0_0, .int .i64 a0_1]) (t := 26) ?hr ?_; (case hd => rfl); (case hg => rfl); (case hr => first | (go_simp; done) | (go_simp; rfl)); intro gb101 hg w7 hbox hb; have n0_ := Aside0.mk (below_step (eG HB.out) hb); have n1_ := Aside0.mk (hbox); have n2_ := Aside0.mk ((by rw [hg]; exact (below_size (eG HB.out)) : w.heap.size ≤ gb101)); have n3_ := Aside0.mk ((by rw [hg]; exact (below_size (eG HB.out)) : w.heap.size ≤ gb101)); clear HB; have HB := n0_; have BK101 := n1_; have GW101 := n2_; have GE101 := n3_; have ig101_ := geI GE101; clear n0_ n1_ n2_ n3_; clear hb hbox hg; have hcz8_0 : w7.cell? ⟨gb101, 0, none⟩ = some (.int .i64 a0_0) := (blk_cell BK101.out 0).trans rfl; have hcz8_1 : w7.cell? ⟨gb101, 1, none⟩ = some (.int .i64 a0_1) := (blk_cell BK101.out 1).trans rfl; have hfz8_0 := blk_frozen BK101.out 0; have hfz8_1 := blk_frozen BK101.out 1))
      go_ret
      exact ⟨by first | rfl | (simp [errW_none, errW_some] <;> rfl) | (simp [*, errW_none, errW_some] <;> rfl), eG HB.out⟩
     ·
      rw [if_neg c6] at H; have c6b0 : decide (0 < a0_1) = false := decide_eq_false c6; clear c6; obtain rfl := Option.some.inj H; go_enter Tryd.func71, Tryd.ntmps71
      go_wp2_with (first | ((with_reducible refine gate_dst (N := 1) rfl ?_); refine box_event ?hg (N := 1) ?hd (cs := #[.int .i64 a0_0, .int .i64 a0_1]) (t := 26) ?hr ?_; (case hd => rfl); (case hg => rfl); (case hr => first | (go_simp; done) | (go_simp; rfl)); intro gb101 hg w9 hbox hb; have n0_ := Aside0.mk (below_step (eG HB.out) hb); have n1_ := Aside0.mk (hbox); have n2_ := Aside0.mk ((by rw [hg]; exact (below_size (eG HB.out)) : w.heap.size ≤ gb101)); have n3_ := Aside0.mk ((by rw [hg]; exact (below_size (eG HB.out)) : w.heap.size ≤ gb101)); clear HB; have HB := n0_; have BK101 := n1_; have GW101 := n2_; have GE101 := n3_; have ig101_ := geI GE101; clear n0_ n1_ n2_ n3_; clear hb hbox hg; have hcz10_0 : w9.cell? ⟨gb101, 0, none⟩ = some (.int .i64 a0_0) := (blk_cell BK101.out 0).trans rfl; have hcz10_1 : w9.cell? ⟨gb101, 1, none⟩ = some (.int .i64 a0_1) := (blk_cell BK101.out 1).trans rfl; have hfz10_0 := blk_frozen BK101.out 0; have hfz10_1 := blk_frozen BK101.out 1))
      go_ret
      exact ⟨by first | rfl | (simp [errW_none, errW_some] <;> rfl) | (simp [*, errW_none, errW_some] <;> rfl), eG HB.out⟩
    ·
     rw [if_neg c5] at H; have c5b0 : decide (a0_1 ≤ 128849018880000) = false := decide_eq_false c5; clear c5; obtain rfl := Option.some.inj H; go_enter Tryd.func71, Tryd.ntmps71
     go_wp2_with (first | ((with_reducible refine gate_dst (N := 1) rfl ?_); refine box_event ?hg (N := 1) ?hd (cs := #[.int .i64 a0_0, .int .i64 a0_1]) (t := 26) ?hr ?_; (case hd => rfl); (case hg => rfl); (case hr => first | (go_simp; done) | (go_simp; rfl)); intro gb101 hg w11 hbox hb; have n0_ := Aside0.mk (below_step (eG HB.out) hb); have n1_ := Aside0.mk (hbox); have n2_ := Aside0.mk ((by rw [hg]; exact (below_size (eG HB.out)) : w.heap.size ≤ gb101)); have n3_ := Aside0.mk ((by rw [hg]; exact (below_size (eG HB.out)) : w.heap.size ≤ gb101)); clear HB; have HB := n0_; have BK101 := n1_; have GW101 := n2_; have GE101 := n3_; have ig101_ := geI GE101; clear n0_ n1_ n2_ n3_; clear hb hbox hg; have hcz12_0 : w11.cell? ⟨gb101, 0, none⟩ = some (.int .i64 a0_0) := (blk_cell BK101.out 0).trans rfl; have hcz12_1 : w11.cell? ⟨gb101, 1, none⟩ = some (.int .i64 a0_1) := (blk_cell BK101.out 1).trans rfl; have hfz12_0 := blk_frozen BK101.out 0; have hfz12_1 := blk_frozen BK101.out 1))
     go_ret
     exact ⟨by first | rfl | (simp [errW_none, errW_some] <;> rfl) | (simp [*, errW_none, errW_some] <;> rfl), eG HB.out⟩
   ·
    rw [if_neg c4] at H; have c4b0 : decide (0 ≤ a0_1) = false := decide_eq_false c4; clear c4; obtain rfl := Option.some.inj H; go_enter Tryd.func71, Tryd.ntmps71
    go_wp2_with (first | ((with_reducible refine gate_dst (N := 1) rfl ?_); refine box_event ?hg (N := 1) ?hd (cs := #[.int .i64 a0_0, .int .i64 a0_1]) (t := 26) ?hr ?_; (case hd => rfl); (case hg => rfl); (case hr => first | (go_simp; done) | (go_simp; rfl)); intro gb101 hg w13 hbox hb; have n0_ := Aside0.mk (below_step (eG HB.out) hb); have n1_ := Aside0.mk (hbox); have n2_ := Aside0.mk ((by rw [hg]; exact (below_size (eG HB.out)) : w.heap.size ≤ gb101)); have n3_ := Aside0.mk ((by rw [hg]; exact (below_size (eG HB.out)) : w.heap.size ≤ gb101)); clear HB; have HB := n0_; have BK101 := n1_; have GW101 := n2_; have GE101 := n3_; have ig101_ := geI GE101; clear n0_ n1_ n2_ n3_; clear hb hbox hg; have hcz14_0 : w13.cell? ⟨gb101, 0, none⟩ = some (.int .i64 a0_0) := (blk_cell BK101.out 0).trans rfl; have hcz14_1 : w13.cell? ⟨gb101, 1, none⟩ = some (.int .i64 a0_1) := (blk_cell BK101.out 1).trans rfl; have hfz14_0 := blk_frozen BK101.out 0; have hfz14_1 := blk_frozen BK101.out 1))
    go_ret
    exact ⟨by first | rfl | (simp [errW_none, errW_some] <;> rfl) | (simp [*, errW_none, errW_some] <;> rfl), eG HB.out⟩
  ·
   rw [if_neg c3] at H; have c3b0 : decide (a0_0 ≤ 10737418240000) = false := decide_eq_false c3; clear c3; obtain rfl := Option.some.inj H; go_enter Tryd.func71, Tryd.ntmps71
   go_wp2_with (first | ((with_reducible refine gate_dst (N := 1) rfl ?_); refine box_event ?hg (N := 1) ?hd (cs := #[.int .i64 a0_0, .int .i64 a0_1]) (t := 26) ?hr ?_; (case hd => rfl); (case hg => rfl); (case hr => first | (go_simp; done) | (go_simp; rfl)); intro gb101 hg w15 hbox hb; have n0_ := Aside0.mk (below_step (eG HB.out) hb); have n1_ := Aside0.mk (hbox); have n2_ := Aside0.mk ((by rw [hg]; exact (below_size (eG HB.out)) : w.heap.size ≤ gb101)); have n3_ := Aside0.mk ((by rw [hg]; exact (below_size (eG HB.out)) : w.heap.size ≤ gb101)); clear HB; have HB := n0_; have BK101 := n1_; have GW101 := n2_; have GE101 := n3_; have ig101_ := geI GE101; clear n0_ n1_ n2_ n3_; clear hb hbox hg; have hcz16_0 : w15.cell? ⟨gb101, 0, none⟩ = some (.int .i64 a0_0) := (blk_cell BK101.out 0).trans rfl; have hcz16_1 : w15.cell? ⟨gb101, 1, none⟩ = some (.int .i64 a0_1) := (blk_cell BK101.out 1).trans rfl; have hfz16_0 := blk_frozen BK101.out 0; have hfz16_1 := blk_frozen BK101.out 1))
   go_ret
   exact ⟨by first | rfl | (simp [errW_none, errW_some] <;> rfl) | (simp [*, errW_none, errW_some] <;> rfl), eG HB.out⟩
 ·
  rw [if_neg c2] at H; have c2b0 : decide (0 ≤ a0_0) = false := decide_eq_false c2; clear c2; obtain rfl := Option.some.inj H; go_enter Tryd.func71, Tryd.ntmps71
  go_wp2_with (first | ((with_reducible refine gate_dst (N := 1) rfl ?_); refine box_event ?hg (N := 1) ?hd (cs := #[.int .i64 a0_0, .int .i64 a0_1]) (t := 26) ?hr ?_; (case hd => rfl); (case hg => rfl); (case hr => first | (go_simp; done) | (go_simp; rfl)); intro gb101 hg w17 hbox hb; have n0_ := Aside0.mk (below_step (eG HB.out) hb); have n1_ := Aside0.mk (hbox); have n2_ := Aside0.mk ((by rw [hg]; exact (below_size (eG HB.out)) : w.heap.size ≤ gb101)); have n3_ := Aside0.mk ((by rw [hg]; exact (below_size (eG HB.out)) : w.heap.size ≤ gb101)); clear HB; have HB := n0_; have BK101 := n1_; have GW101 := n2_; have GE101 := n3_; have ig101_ := geI GE101; clear n0_ n1_ n2_ n3_; clear hb hbox hg; have hcz18_0 : w17.cell? ⟨gb101, 0, none⟩ = some (.int .i64 a0_0) := (blk_cell BK101.out 0).trans rfl; have hcz18_1 : w17.cell? ⟨gb101, 1, none⟩ = some (.int .i64 a0_1) := (blk_cell BK101.out 1).trans rfl; have hfz18_0 := blk_frozen BK101.out 0; have hfz18_1 := blk_frozen BK101.out 1))
  go_ret
  exact ⟨by first | rfl | (simp [errW_none, errW_some] <;> rfl) | (simp [*, errW_none, errW_some] <;> rfl), eG HB.out⟩
def mix_Sum_1.f (a0_0 : Int) (a0_1 : Int) : Option (Bool) := (mix_plain.f a0_0 a0_1).bind fun t103 => (some (!t103))
set_option maxHeartbeats 8000000 in
set_option maxRecDepth 100000 in
theorem mix_Sum_1.calls (a0_0 : Int) (a0_1 : Int) (r : Bool) (w : World) (h : mix_Sum_1.f a0_0 a0_1 = some r) :
  Calls Tryd.prog 70 #[.agg #[.int .i64 a0_0, .int .i64 a0_1]] w fun e w' => e = .returned (.bool r) ∧ Below w.heap.size w w' := by
 have hu26 := Tryd.underlying26; have HB := Aside0.mk (Below.refl w.heap.size w); have H : ((mix_plain.f a0_0 a0_1).bind fun t103 => (some (!t103))) = some r := h; clear h; replace H := Option.bind_eq_some_iff.mp H; obtain ⟨t103, A20, H⟩ := H; replace H : (some (!t103)) = some r := H; have A2 := Aside0.mk A20; clear A20; obtain rfl := Option.some.inj H; go_enter Tryd.func70, Tryd.ntmps70
 go_wp2_with (first | ((with_reducible refine gate_dst (N := 1) rfl ?_); refine box_event ?hg (N := 1) ?hd (cs := #[.int .i64 a0_0, .int .i64 a0_1]) (t := 26) ?hr ?_; (case hd => rfl); (case hg => rfl); (case hr => first | (go_simp; done) | (go_simp; rfl)); intro gb102 hg w3 hbox hb; have n0_ := Aside0.mk (below_step (eG HB.out) hb); have n1_ := Aside0.mk (hbox); have n2_ := Aside0.mk ((by rw [hg]; exact (below_size (eG HB.out)) : w.heap.size ≤ gb102)); have n3_ := Aside0.mk ((by rw [hg]; exact (below_size (eG HB.out)) : w.heap.size ≤ gb102)); clear HB; have HB := n0_; have BK102 := n1_; have GW102 := n2_; have GE102 := n3_; have ig102_ := geI GE102; clear n0_ n1_ n2_ n3_; clear hb hbox hg; have hcz4_0 : w3.cell? ⟨gb102, 0, none⟩ = some (.int .i64 a0_0) := (blk_cell BK102.out 0).trans rfl; have hcz4_1 : w3.cell? ⟨gb102, 1, none⟩ = some (.int .i64 a0_1) := (blk_cell BK102.out 1).trans rfl; have hfz4_0 := blk_frozen BK102.out 0; have hfz4_1 := blk_frozen BK102.out 1) | ((with_reducible refine gate_callee (f := 71) rfl ?_); refine goesL_ (some 4) rfl rfl Tryd.func71 (by kernel_rfl) rfl #[.agg #[.int .i64 a0_0, .int .i64 a0_1]] rfl (by (try simp only [List.map_toArray, List.map_cons, List.map_nil]); first | done | rfl | (simp only [List.length_drop, List.length_take]; rfl)) ?_; (with_reducible refine (mix_plain.calls a0_0 a0_1 t103 _ A2.out).mono ?_); rintro e w5 ⟨rfl, hb⟩; refine ⟨_, rfl, ?_⟩; have n0_ := Aside0.mk (blk_below (bG BK102.out) hb); have n1_ := Aside0.mk (below_step (eG HB.out) hb); clear BK102; clear HB; have BK102 := n0_; have HB := n1_; clear n0_ n1_; (try clear hb); (try clear hb2); (try clear hk); (try clear hi)))
 go_ret
 exact ⟨by first | rfl | (simp [errW_none, errW_some] <;> rfl) | (simp [*, errW_none, errW_some] <;> rfl), eG HB.out⟩
def mix_total.l0 : Nat → List (S26) → Int → Int → Int → Int → Option (Int × Int)
 | 0, _, _, _, _, _ => none
 | k + 1, x6, x7, x8, x106000, x106001 => if x8 < x7 then (if 0 ≤ x8 then (if x8 < (x6.length : Int) then (mix_total.l0 k x6 x7 (wrap64 (x8 + 1)) (wrap64 (x106000 + ((rd_T26 x6 x8).f0))) (wrap64 (x106001 + ((rd_T26 x6 x8).f1)))) else (none)) else (none)) else (some (x106000, x106001))
def mix_total.f (k : Nat) (l0 : List (S26)) : Option (Int × Int) := mix_total.l0 k l0 (l0.length : Int) 0 0 0
def mix_total.T5 : Bool × List (List Nat × List Nat) := (true, [([], []), ([0], [0]), ([], []), ([2], [2]), ([1, 3], [1, 3]), ([], []), ([5], [5]), ([], []), ([7], [7]), ([6, 8], [6, 8]), ([0, 1, 2, 3, 4, 5, 6], []), ([10, 4, 0, 1, 2, 3, 4, 5, 6], [4, 10]), ([0, 1, 2, 3, 4, 5, 6, 7, 8, 9, 10, 11], []), ([12, 9, 11, 0, 1, 2, 3, 4, 5, 6, 7, 8, 9, 10, 11], [9, 12])])
def mix_total.B5 : List Nat := [0, 1, 0, 4, 15, 0, 32, 0, 128, 480, 127, 1151, 4095, 8191]
theorem mix_total.tab5 : rtab .any (opsOf Tryd.f72 5) = mix_total.T5 := by kernel_rfl
theorem mix_total.bits5 : waitsOk mix_total.T5.2 mix_total.B5 = true := by kernel_rfl
set_option maxHeartbeats 8000000 in
set_option maxRecDepth 100000 in
theorem mix_total.calls (k : Nat) (A0 : Option Addr) (c0 : Nat) (l0 : List (S26)) (r1 : Int) (r2 : Int) (w : World) (hr0 : Kd.C k26 w A0 l0.length l0) (hc0 : l0.length ≤ c0) (h : mix_total.f k l0 = some (r1, r2)) :
  Calls Tryd.prog 72 #[.slice A0 l0.length c0] w fun e w' => e = .returned (.agg #[.int .i64 r1, .int .i64 r2]) ∧ Below w.heap.size w w' := by
 have hu26 := Tryd.underlying26; have hu104 := Tryd.underlying104; have HR0 := Aside0.mk hr0; have HC0 := Aside0.mk hc0; clear hr0 hc0; have HB := Aside0.mk (Below.refl w.heap.size w); have H : (mix_total.l0 k l0 (l0.length : Int) 0 0 0) = some (r1, r2) := h; clear h; have H' := Aside0.mk H; clear H; go_enter Tryd.func72, Tryd.ntmps72
 go_wp2_with (first | ((with_reducible refine gate_dst (N := 2) rfl ?_); refine box_event ?hg (N := 2) ?hd (cs := #[.int .i64 0, .int .i64 0]) (t := 26) ?hr ?_; (case hd => rfl); (case hg => rfl); (case hr => first | (go_simp; done) | (go_simp; rfl)); intro gb104 hg w2 hbox hb; have n0_ := Aside0.mk (below_step (eG HB.out) hb); have n1_ := Aside0.mk (hbox); have n2_ := Aside0.mk ((by rw [hg]; exact (below_size (eG HB.out)) : w.heap.size ≤ gb104)); have n3_ := Aside0.mk ((by rw [hg]; exact (below_size (eG HB.out)) : w.heap.size ≤ gb104)); clear HB; have HB := n0_; have BK104 := n1_; have GW104 := n2_; have GE104 := n3_; have ig104_ := geI GE104; clear n0_ n1_ n2_ n3_; clear hb hbox hg) | ((with_reducible refine gate_dst (N := 3) rfl ?_); refine box_event ?hg (N := 3) ?hd (cs := #[.int .i64 0, .int .i64 0]) (t := 104) ?hr ?_; (case hd => rfl); (case hg => rfl); (case hr => first | (go_simp; done) | (go_simp; rfl)); intro gb105 hg w3 hbox hb; have n0_ := Aside0.mk (blk_below (bG BK104.out) hb); have n1_ := Aside0.mk (below_step (eG HB.out) hb); have n2_ := Aside0.mk (hbox); have n3_ := Aside0.mk ((by rw [hg]; exact (below_size (eG HB.out)) : w.heap.size ≤ gb105)); have n4_ := Aside0.mk ((by rw [hg]; exact (below_size (eG HB.out)) : w.heap.size ≤ gb105)); have n5_ := Aside0.mk ((by rw [hg]; exact Nat.ne_of_lt (blk_lt (bG BK104.out)) : gb104 ≠ gb105)); have n6_ := Aside0.mk ((by rw [hg]; exact Nat.ne_of_gt (blk_lt (bG BK104.out)) : gb105 ≠ gb104)); clear BK104; clear HB; have BK104 := n0_; have HB := n1_; have BK105 := n2_; have GW105 := n3_; have GE105 := n4_; have ig105_ := geI GE105; have NB104_105 := n5_; have NB105_104 := n6_; clear n0_ n1_ n2_ n3_ n4_ n5_ n6_; clear hb hbox hg))
 go_loopg [8] k (fun kq v8 w' => ∃ (x8_1 : Int) (x106000_1 : Int) (x106001_1 : Int), v8 = .int .i64 x8_1 ∧ Aside0 (mix_total.l0 kq l0 (l0.length : Int) x8_1 x106000_1 x106001_1 = some (r1, r2)) ∧ Aside0 (kq ≤ k) ∧ Aside0 (w'.heap[gb104]? = some (.cells #[.int .i64 0, .int .i64 0] 26 (0, 0))) ∧ Aside0 (w'.heap[gb105]? = some (.cells #[.int .i64 x106000_1, .int .i64 x106001_1] 104 (0, 0))) ∧ Aside0 (Below w.heap.size w w'))
 case atStart => exact ⟨(0), (0), (0), (by first | rfl | (simp; done) | (simp [*]; done)), H', ⟨Nat.le_refl _⟩, ⟨by (with_reducible repeat first | apply bN | apply bD | apply bA); exact BK104.out⟩, ⟨by (with_reducible repeat first | apply bN | apply bD | apply bA); exact BK105.out⟩, ⟨eG HB.out⟩⟩
 case round =>
  clear H'; try clear p2
  obtain ⟨x8_1, x106000_1, x106001_1, rfl, HA, HK1, BK104, BK105, HB⟩ := hrel
  cases gk with
  | zero => exact absurd HA.out (by simp [mix_total.l0])
  | succ k1 =>
   have H := HA.out; clear HA; simp only [mix_total.l0] at H; by_cases c4 : x8_1 < (l0.length : Int)
   ·
    rw [if_pos c4] at H; have c4b0 : decide (x8_1 < (l0.length : Int)) = true := decide_eq_true c4; clear c4; by_cases c5 : 0 ≤ x8_1
    ·
     rw [if_pos c5] at H; have c5b0 : decide (0 ≤ x8_1) = true := decide_eq_true c5; clear c5; by_cases c6 : x8_1 < (l0.length : Int)
     ·
      rw [if_pos c6] at H; have c6b0 : decide (x8_1 < (l0.length : Int)) = true := decide_eq_true c6; clear c6; have H' := Aside0.mk H; clear H; have p106 : 0 ≤ (x8_1 : Int) := of_decide_eq_true (by first | (with_reducible assumption) | assumption); have q106 : x8_1 < (l0.length : Int) := of_decide_eq_true (by first | (with_reducible assumption) | assumption); obtain ⟨ad106, e106, hx106_0, hx106_1⟩ := at_T26 HR0.out x8_1 p106 q106; cases e106; replace hx106_0 := (HB.out.cell (World.block_lt_of_cell? w _ hx106_0)).trans hx106_0; replace hx106_1 := (HB.out.cell (World.block_lt_of_cell? w _ hx106_1)).trans hx106_1; replace p106 := eq_true p106; replace q106 := eq_true q106; try go_wp2_with (first | ((with_reducible refine gate_dst (N := 5) rfl ?_); refine box_event ?hg (N := 5) ?hd (cs := #[.int .i64 0, .int .i64 0]) (t := 26) ?hr ?_; (case hd => rfl); (case hg => rfl); (case hr => first | (go_simp; done) | (go_simp; rfl)); intro gb107 hg w7 hbox hb; have n0_ := Aside0.mk (blk_below (bG BK104.out) hb); have n1_ := Aside0.mk (blk_below (bG BK105.out) hb); have n2_ := Aside0.mk (below_step (eG HB.out) hb); have n3_ := Aside0.mk (hbox); have n4_ := Aside0.mk ((by rw [hg]; exact (below_size (eG HB.out)) : w.heap.size ≤ gb107)); have n5_ := Aside0.mk ((by rw [hg]; exact (below_size (eG HB.out)) : w.heap.size ≤ gb107)); have n6_ := Aside0.mk ((by rw [hg]; exact Nat.ne_of_lt (blk_lt (bG BK104.out)) : gb104 ≠ gb107)); have n7_ := Aside0.mk ((by rw [hg]; exact Nat.ne_of_gt (blk_lt (bG BK104.out)) : gb107 ≠ gb104)); have n8_ := Aside0.mk ((by rw [hg]; exact Nat.ne_of_lt (blk_lt (bG BK105.out)) : gb105 ≠ gb107)); have n9_ := Aside0.mk ((by rw [hg]; exact Nat.ne_of_gt (blk_lt (bG BK105.out)) : gb107 ≠ gb105)); clear BK104; clear BK105; clear HB; have BK104 := n0_; have BK105 := n1_; have HB := n2_; have BK107 := n3_; have GW107 := n4_; have GE107 := n5_; have ig107_ := geI GE107; have NB104_107 := n6_; have NB107_104 := n7_; have NB105_107 := n8_; have NB107_105 := n9_; clear n0_ n1_ n2_ n3_ n4_ n5_ n6_ n7_ n8_ n9_; clear hb hbox hg; have hnb8 := NB107_104.out; have hnc8 := NB104_107.out; have hnb9 := NB107_105.out; have hnc9 := NB105_107.out; have hcz10_0 : w7.cell? ⟨gb107, 0, none⟩ = some (.int .i64 0) := (blk_cell BK107.out 0).trans rfl; have hcz10_1 : w7.cell? ⟨gb107, 1, none⟩ = some (.int .i64 0) := (blk_cell BK107.out 1).trans rfl; have hfz10_0 := blk_frozen BK107.out 0; have hfz10_1 := blk_frozen BK107.out 1))
      have n0_ : Aside0 (((w7.setCell ⟨gb107, 0, none⟩ (.int .i64 ((rd_T26 l0 x8_1).f0))).setCell ⟨gb107, 1, none⟩ (.int .i64 ((rd_T26 l0 x8_1).f1))).heap[gb104]? = some (.cells #[.int .i64 0, .int .i64 0] 26 (0, 0))) := ⟨by (with_reducible repeat first | apply bN | apply bD | apply bA); refine blk_far ?_ NB104_107.out _; (with_reducible repeat first | apply bN | apply bD | apply bA); refine blk_far ?_ NB104_107.out _; (with_reducible repeat first | apply bN | apply bD | apply bA); exact BK104.out⟩; have n1_ : Aside0 (((w7.setCell ⟨gb107, 0, none⟩ (.int .i64 ((rd_T26 l0 x8_1).f0))).setCell ⟨gb107, 1, none⟩ (.int .i64 ((rd_T26 l0 x8_1).f1))).heap[gb105]? = some (.cells #[.int .i64 x106000_1, .int .i64 x106001_1] 104 (0, 0))) := ⟨by (with_reducible repeat first | apply bN | apply bD | apply bA); refine blk_far ?_ NB105_107.out _; (with_reducible repeat first | apply bN | apply bD | apply bA); refine blk_far ?_ NB105_107.out _; (with_reducible repeat first | apply bN | apply bD | apply bA); exact BK105.out⟩; have n2_ : Aside0 (((w7.setCell ⟨gb107, 0, none⟩ (.int .i64 ((rd_T26 l0 x8_1).f0))).setCell ⟨gb107, 1, none⟩ (.int .i64 ((rd_T26 l0 x8_1).f1))).heap[gb107]? = some (.cells #[.int .i64 ((rd_T26 l0 x8_1).f0), .int .i64 ((rd_T26 l0 x8_1).f1)] 26 (0, 0))) := ⟨by (with_reducible repeat first | apply bN | apply bD | apply bA); refine blk_put (cs := #[.int .i64 ((rd_T26 l0 x8_1).f0), .int .i64 0]) ?_ 1 _ rfl; (with_reducible repeat first | apply bN | apply bD | apply bA); refine blk_put (cs := #[.int .i64 0, .int .i64 0]) ?_ 0 _ rfl; (with_reducible repeat first | apply bN | apply bD | apply bA); exact BK107.out⟩; have n3_ : Aside0 (Below w.heap.size w ((w7.setCell ⟨gb107, 0, none⟩ (.int .i64 ((rd_T26 l0 x8_1).f0))).setCell ⟨gb107, 1, none⟩ (.int .i64 ((rd_T26 l0 x8_1).f1)))) := ⟨eG HB.out⟩; (try clear BK104)
      (try clear BK105)
      (try clear BK107)
      (try clear HB)
      generalize ((w7.setCell ⟨gb107, 0, none⟩ (.int .i64 ((rd_T26 l0 x8_1).f0))).setCell ⟨gb107, 1, none⟩ (.int .i64 ((rd_T26 l0 x8_1).f1))) = w11 at n0_ n1_ n2_ n3_ ⊢; have BK104 := n0_; have BK105 := n1_; have BK107 := n2_; have HB := n3_; clear n0_ n1_ n2_ n3_; have n0_ := Aside0.mk (blk_drew BK104.out); have n1_ := Aside0.mk (blk_drew BK105.out); have n2_ := Aside0.mk (blk_drew BK107.out); have n3_ := Aside0.mk (below_drew1 HB.out); clear BK104; clear BK105; clear BK107; clear HB; have BK104 := n0_; have BK105 := n1_; have BK107 := n2_; have HB := n3_; clear n0_ n1_ n2_ n3_; refine start_ (n := 14) (S := fun w' => w'.cell? ⟨gb105, 1, none⟩ = some (.int .i64 x106001_1) ∧ w'.cell? ⟨gb107, 0, none⟩ = some (.int .i64 ((rd_T26 l0 x8_1).f0)) ∧ w'.cell? ⟨gb107, 1, none⟩ = some (.int .i64 ((rd_T26 l0 x8_1).f1))) (ds := [13]) #[false, false, false, false, false, false, false, false, false, false, false, false, false, false] (by kernel_rfl) rfl rfl ⟨(blk_cell BK105.out 1).trans rfl, (blk_cell BK107.out 0).trans rfl, (blk_cell BK107.out 1).trans rfl⟩ (fun hHeld => ?_); refine with_tabW mix_total.tab5 mix_total.bits5 (fun HT_ HW_ => ?_)
      generalize w11.drew = w12 at BK104 BK105 BK107 HB hHeld ⊢; refine pure_ (i := 0) (N := some 12) (v := ?_) (a' := ?_) #[true, false, false, false, false, false, false, false, false, false, false, false, false, false] rfl rfl (any_of HT_.out (by kernel_rfl)) (fun _ _ _ h => h) (Or.inl ⟨by rfl, ?_⟩) ?_ ?_; rotate_left
      · intro w'; go_simp; with_reducible rfl
      rotate_left
      · simp only [Act.put, sIA, sC0, sCS, i64_w, i32_w]; rfl
      refine pure_ (i := 2) (N := some 14) (v := ?_) (a' := ?_) #[true, false, true, false, false, false, false, false, false, false, false, false, false, false] rfl rfl (any_of HT_.out (by kernel_rfl)) (fun _ _ _ h => h) (Or.inl ⟨by rfl, ?_⟩) ?_ ?_; rotate_left
      · intro w'; go_simp; with_reducible rfl
      rotate_left
      · simp only [Act.put, sIA, sC0, sCS, i64_w, i32_w]; rfl
      refine pure_ (i := 5) (N := some 17) (v := ?_) (a' := ?_) #[true, false, true, false, false, true, false, false, false, false, false, false, false, false] rfl rfl (any_of HT_.out (by kernel_rfl)) (fun _ _ _ h => h) (Or.inl ⟨by rfl, ?_⟩) ?_ ?_; rotate_left
      · intro w'; go_simp; with_reducible rfl
      rotate_left
      · simp only [Act.put, sIA, sC0, sCS, i64_w, i32_w]; rfl
      refine pure_ (i := 7) (N := some 19) (v := ?_) (a' := ?_) #[true, false, true, false, false, true, false, true, false, false, false, false, false, false] rfl rfl (any_of HT_.out (by kernel_rfl)) (fun _ _ _ h => h) (Or.inl ⟨by rfl, ?_⟩) ?_ ?_; rotate_left
      · intro w'; go_simp; with_reducible rfl
      rotate_left
      · simp only [Act.put, sIA, sC0, sCS, i64_w, i32_w]; rfl
      refine take_ (i := 3) (N := some 15) (v := ?_) (a' := ?_) #[true, false, true, true, false, true, false, true, false, false, false, false, false, false] rfl rfl (take_ofW HT_.out HW_.out (by kernel_rfl)) (fun _ _ _ h => h) (Or.inl ⟨by rfl, ?_⟩) hHeld ?_ ?_; rotate_left
      · rintro w' ⟨s0, s1, s2⟩; go_simp; with_reducible rfl
      rotate_left
      · simp only [Act.put, sIA, sC0, sCS, i64_w, i32_w]; rfl
      refine take_ (i := 6) (N := some 18) (v := ?_) (a' := ?_) #[true, false, true, true, false, true, true, true, false, false, false, false, false, false] rfl rfl (take_ofW HT_.out HW_.out (by kernel_rfl)) (fun _ _ _ h => h) (Or.inl ⟨by rfl, ?_⟩) hHeld ?_ ?_; rotate_left
      · rintro w' ⟨s0, s1, s2⟩; go_simp; with_reducible rfl
      rotate_left
      · simp only [Act.put, sIA, sC0, sCS, i64_w, i32_w]; rfl
      refine take_ (i := 8) (N := some 20) (v := ?_) (a' := ?_) #[true, false, true, true, false, true, true, true, true, false, false, false, false, false] rfl rfl (take_ofW HT_.out HW_.out (by kernel_rfl)) (fun _ _ _ h => h) (Or.inl ⟨by rfl, ?_⟩) hHeld ?_ ?_; rotate_left
      · rintro w' ⟨s0, s1, s2⟩; go_simp; with_reducible rfl
      rotate_left
      · simp only [Act.put, sIA, sC0, sCS, i64_w, i32_w]; rfl
      refine pure_ (i := 9) (N := some 21) (v := ?_) (a' := ?_) #[true, false, true, true, false, true, true, true, true, true, false, false, false, false] rfl rfl (any_of HT_.out (by kernel_rfl)) (fun _ _ _ h => h) (Or.inl ⟨by rfl, ?_⟩) ?_ ?_; rotate_left
      · intro w'; go_simp; with_reducible rfl
      rotate_left
      · simp only [Act.put, sIA, sC0, sCS, i64_w, i32_w]; rfl
      refine one_ (i := 1) (N := some 13) #[true, true, true, true, false, true, true, true, true, true, false, false, false, false] rfl rfl (one_of HT_.out (by kernel_rfl)) (by decide) (fun K hK => ?_); have hs1_ := (blk_cell BK105.out 0).trans rfl; refine value_ (w1 := ?_) (v := ?_) (by rfl) rfl ?_ ?_; rotate_left 2
      ·
       go_simp; constructor
       · rfl
       · rfl
      refine hK.out _ _ ⟨hHeld.1, hHeld.2.1, hHeld.2.2⟩ (fun hHeld => ?_); clear hK K; refine norm_ (a' := ?_) ?_ ?_; rotate_left
      ·
       show Act.put _ (some 13) _ = _
       simp only [Act.put, sIA, sC0, sCS, i64_w, i32_w]; rfl
      refine pure_ (i := 4) (N := some 16) (v := ?_) (a' := ?_) #[true, true, true, true, true, true, true, true, true, true, false, false, false, false] rfl rfl (any_of HT_.out (by kernel_rfl)) (fun _ _ _ h => h) (Or.inl ⟨by rfl, ?_⟩) ?_ ?_; rotate_left
      · intro w'; go_simp; with_reducible rfl
      rotate_left
      · simp only [Act.put, sIA, sC0, sCS, i64_w, i32_w]; rfl
      refine pure_ (i := 10) (N := some 22) (v := ?_) (a' := ?_) #[true, true, true, true, true, true, true, true, true, true, true, false, false, false] rfl rfl (any_of HT_.out (by kernel_rfl)) (fun _ _ _ h => h) (Or.inl ⟨by rfl, ?_⟩) ?_ ?_; rotate_left
      · intro w'; go_simp; with_reducible rfl
      rotate_left
      · simp only [Act.put, sIA, sC0, sCS, i64_w, i32_w]; rfl
      refine one_ (i := 11) (N := none) #[true, true, true, true, true, true, true, true, true, true, true, true, false, false] rfl rfl (one_of HT_.out (by kernel_rfl)) (by decide) (fun K hK => ?_); have hs13 : w12.cell? ⟨gb105, 0, none⟩ = some (.int .i64 x106000_1) := (blk_cell BK105.out 0).trans rfl; have hfs13 := blk_frozen BK105.out 0; have hns13_0 := NB104_105.out; have hns13_2 := NB107_105.out; have hms13_0 := NB105_104.out; have hms13_2 := NB105_107.out; refine skip_ (w1 := ?_) (by rfl) rfl ?_ ?_; rotate_left
      · go_simp; rfl
      refine hK.out _ _ ⟨((cell_off (by decide)).trans (hHeld.1)), ((cell_far (p := ⟨gb105, _, none⟩) NB107_105.out _).trans (hHeld.2.1)), ((cell_far (p := ⟨gb105, _, none⟩) NB107_105.out _).trans (hHeld.2.2))⟩ (fun hHeld => ?_); clear hK K; refine pure_ (i := 12) (N := some 23) (v := ?_) (a' := ?_) #[true, true, true, true, true, true, true, true, true, true, true, true, true, false] rfl rfl (any_of HT_.out (by kernel_rfl)) (fun _ _ _ h => h) (Or.inl ⟨by rfl, ?_⟩) ?_ ?_; rotate_left
      · intro w'; go_simp; with_reducible rfl
      rotate_left
      · simp only [Act.put, sIA, sC0, sCS, i64_w, i32_w]; rfl
      refine last_ (i := 13) (N := none) #[true, true, true, true, true, true, true, true, true, true, true, true, true, true] rfl rfl (one_of HT_.out (by kernel_rfl)) (by decide) (fun K hK => ?_); have hs14 : w12.cell? ⟨gb105, 1, none⟩ = some (.int .i64 x106001_1) := (blk_cell BK105.out 1).trans rfl; have hfs14 := blk_frozen BK105.out 1; have hns14_0 := NB104_105.out; have hns14_2 := NB107_105.out; have hms14_0 := NB105_104.out; have hms14_2 := NB105_107.out; refine skip_ (w1 := ?_) (by rfl) rfl ?_ ?_; rotate_left
      · go_simp; rfl
      refine hK.out _ _ ?_; clear hK K; refine done_ (done_of HT_.out (by kernel_rfl)) ?_; try go_wp2
      go_roundg k1
      case measure => have := HK1.out; omega
      case rel => exact ⟨(wrap64 (x8_1 + 1)), (wrap64 (x106000_1 + ((rd_T26 l0 x8_1).f0))), (wrap64 (x106001_1 + ((rd_T26 l0 x8_1).f1))), (by first | rfl | (simp; done) | (simp [*]; done)), H', ⟨by have := HK1.out; omega⟩, ⟨by (with_reducible repeat first | apply bN | apply bD | apply bA); refine blk_far ?_ NB104_105.out _; (with_reducible repeat first | apply bN | apply bD | apply bA); refine blk_far ?_ NB104_105.out _; (with_reducible repeat first | apply bN | apply bD | apply bA); exact BK104.out⟩, ⟨by (with_reducible repeat first | apply bN | apply bD | apply bA); refine blk_put (cs := #[.int .i64 (wrap64 (x106000_1 + ((rd_T26 l0 x8_1).f0))), .int .i64 x106001_1]) ?_ 1 _ rfl; (with_reducible repeat first | apply bN | apply bD | apply bA); refine blk_put (cs := #[.int .i64 x106000_1, .int .i64 x106001_1]) ?_ 0 _ rfl; (with_reducible repeat first | apply bN | apply bD | apply bA); exact BK105.out⟩, ⟨eG HB.out⟩⟩
     · rw [if_neg c6] at H; exact absurd H (by simp)
    · rw [if_neg c5] at H; exact absurd H (by simp)
   · rw [if_neg c4] at H; have c4b0 : decide (x8_1 < (l0.length : Int)) = false := decide_eq_false c4; clear c4; simp only [Option.some.injEq, Prod.mk.injEq] at H; obtain ⟨rfl, rfl⟩ := H; have hnb15 := NB105_104.out; have hnc15 := NB104_105.out; have hcz16_0 : wr.cell? ⟨gb105, 0, none⟩ = some (.int .i64 x106000_1) := (blk_cell BK105.out 0).trans rfl; have hcz16_1 : wr.cell? ⟨gb105, 1, none⟩ = some (.int .i64 x106001_1) := (blk_cell BK105.out 1).trans rfl; have hfz16_0 := blk_frozen BK105.out 0; have hfz16_1 := blk_frozen BK105.out 1; have hcz17_0 : wr.cell? ⟨gb104, 0, none⟩ = some (.int .i64 0) := (blk_cell BK104.out 0).trans rfl; have hcz17_1 : wr.cell? ⟨gb104, 1, none⟩ = some (.int .i64 0) := (blk_cell BK104.out 1).trans rfl; have hfz17_0 := blk_frozen BK104.out 0; have hfz17_1 := blk_frozen BK104.out 1; go_wp2; refine bodyPost_ret (results_cell_row rfl _ _ gb104 26 #[.int .i64 x106000_1, .int .i64 x106001_1] (0, 0) _ rfl (by (with_reducible repeat first | apply bN | apply bD | apply bA); refine blk_put (cs := #[.int .i64 x106000_1, .int .i64 0]) ?_ 1 _ rfl; (with_reducible repeat first | apply bN | apply bD | apply bA); refine blk_put (cs := #[.int .i64 0, .int .i64 0]) ?_ 0 _ rfl; (with_reducible repeat first | apply bN | apply bD | apply bA); exact BK104.out) Tryd.underlying26 rfl (by kernel_rfl)) rfl ?_; exact ⟨by first | rfl | (simp [errW_none, errW_some] <;> rfl) | (simp [*, errW_none, errW_some] <;> rfl), eG HB.out⟩
def api_Liquid_78_at_70.l0 : Nat → List (S26) → Int → Int → Option (Int)
 | 0, _, _, _ => none
 | k + 1, x0, x7, x8 => if x8 < x7 then (if 0 ≤ x8 then (if x8 < (x0.length : Int) then ((mix_Sum_1.f ((rd_T26 x0 x8).f0) ((rd_T26 x0 x8).f1)).bind fun t109 => (if t109 = true then (some x8) else (api_Liquid_78_at_70.l0 k x0 x7 (wrap64 (x8 + 1))))) else (none)) else (none)) else (some (-1))
def api_Liquid_78_at_70.f (k : Nat) (l0 : List (S26))  : Option (Int) := api_Liquid_78_at_70.l0 k l0 (l0.length : Int) 0
set_option maxHeartbeats 8000000 in
set_option maxRecDepth 100000 in
theorem api_Liquid_78_at_70.calls (k : Nat) (A0 : Option Addr) (c0 : Nat) (l0 : List (S26))  (r : Int) (w : World) (hr0 : Kd.C k26 w A0 l0.length l0) (hc0 : l0.length ≤ c0) (h : api_Liquid_78_at_70.f k l0 = some r) :
  Calls Tryd.prog 78 #[.slice A0 l0.length c0, .func (.func 70) #[] #[]] w fun e w' => e = .returned (.int .i64 r) ∧ Below w.heap.size w w' := by
 have hu26 := Tryd.underlying26; have HR0 := Aside0.mk hr0; have HC0 := Aside0.mk hc0; clear hr0 hc0; have HB := Aside0.mk (Below.refl w.heap.size w); have H : (api_Liquid_78_at_70.l0 k l0 (l0.length : Int) 0) = some r := h; clear h; have H' := Aside0.mk H; clear H; go_enter Tryd.func78, Tryd.ntmps78
 go_wp2; go_loopg [8] k (fun kq v8 w' => ∃ (x8_1 : Int), v8 = .int .i64 x8_1 ∧ Aside0 (api_Liquid_78_at_70.l0 kq l0 (l0.length : Int) x8_1 = some r) ∧ Aside0 (kq ≤ k) ∧ Aside0 (Below w.heap.size w w'))
 case atStart => exact ⟨(0), (by first | rfl | (simp; done) | (simp [*]; done)), H', ⟨Nat.le_refl _⟩, ⟨eG HB.out⟩⟩
 case round =>
  clear H'; try clear p2
  obtain ⟨x8_1, rfl, HA, HK1, HB⟩ := hrel
  cases gk with
  | zero => exact absurd HA.out (by simp [api_Liquid_78_at_70.l0])
  | succ k1 =>
   have H := HA.out; clear HA; simp only [api_Liquid_78_at_70.l0] at H; by_cases c3 : x8_1 < (l0.length : Int)
   ·
    rw [if_pos c3] at H; have c3b0 : decide (x8_1 < (l0.length : Int)) = true := decide_eq_true c3; clear c3; by_cases c4 : 0 ≤ x8_1
    ·
     rw [if_pos c4] at H; have c4b0 : decide (0 ≤ x8_1) = true := decide_eq_true c4; clear c4; by_cases c5 : x8_1 < (l0.length : Int)
     ·
      rw [if_pos c5] at H; have c5b0 : decide (x8_1 < (l0.length : Int)) = true := decide_eq_true c5; clear c5; replace H := Option.bind_eq_some_iff.mp H; obtain ⟨t109, A60, H⟩ := H; replace H : (if t109 = true then (some x8_1) else (api_Liquid_78_at_70.l0 k1 l0 (l0.length : Int) (wrap64 (x8_1 + 1)))) = some r := H; have A6 := Aside0.mk A60; clear A60; by_cases c7 : t109 = true
      ·
       subst c7; have H1 : (some x8_1) = some r := by rw [if_pos rfl] at H; exact H
       clear H; have H := H1; clear H1; obtain rfl := Option.some.inj H; have p108 : 0 ≤ (x8_1 : Int) := of_decide_eq_true (by first | (with_reducible assumption) | assumption); have q108 : x8_1 < (l0.length : Int) := of_decide_eq_true (by first | (with_reducible assumption) | assumption); obtain ⟨ad108, e108, hx108_0, hx108_1⟩ := at_T26 HR0.out x8_1 p108 q108; cases e108; replace hx108_0 := (HB.out.cell (World.block_lt_of_cell? w _ hx108_0)).trans hx108_0; replace hx108_1 := (HB.out.cell (World.block_lt_of_cell? w _ hx108_1)).trans hx108_1; replace p108 := eq_true p108; replace q108 := eq_true q108; go_wp2_with (first | (go_at_call 70; (with_reducible refine (mix_Sum_1.calls ((rd_T26 l0 x8_1).f0) ((rd_T26 l0 x8_1).f1) true _ A6.out).mono ?_); rintro e w8 ⟨rfl, hb⟩; have n0_ := Aside0.mk (below_step (eG HB.out) hb); clear HB; have HB := n0_; clear n0_; (try clear hb); (try clear hb2); (try clear hk); (try clear hi)))
       go_ret
       exact ⟨by first | rfl | (simp [errW_none, errW_some] <;> rfl) | (simp [*, errW_none, errW_some] <;> rfl), eG HB.out⟩
      ·
       replace c7 := Bool.eq_false_iff.mpr c7; subst c7; have H1 : (api_Liquid_78_at_70.l0 k1 l0 (l0.length : Int) (wrap64 (x8_1 + 1))) = some r := by rw [if_neg (show ¬ (false = true) by decide)] at H; exact H
       clear H; have H := H1; clear H1; have H' := Aside0.mk H; clear H; have p108 : 0 ≤ (x8_1 : Int) := of_decide_eq_true (by first | (with_reducible assumption) | assumption); have q108 : x8_1 < (l0.length : Int) := of_decide_eq_true (by first | (with_reducible assumption) | assumption); obtain ⟨ad108, e108, hx108_0, hx108_1⟩ := at_T26 HR0.out x8_1 p108 q108; cases e108; replace hx108_0 := (HB.out.cell (World.block_lt_of_cell? w _ hx108_0)).trans hx108_0; replace hx108_1 := (HB.out.cell (World.block_lt_of_cell? w _ hx108_1)).trans hx108_1; replace p108 := eq_true p108; replace q108 := eq_true q108; go_wp2_with (first | (go_at_call 70; (with_reducible refine (mix_Sum_1.calls ((rd_T26 l0 x8_1).f0) ((rd_T26 l0 x8_1).f1) false _ A6.out).mono ?_); rintro e w9 ⟨rfl, hb⟩; have n0_ := Aside0.mk (below_step (eG HB.out) hb); clear HB; have HB := n0_; clear n0_; (try clear hb); (try clear hb2); (try clear hk); (try clear hi)))
       go_roundg k1
       case measure => have := HK1.out; omega
       case rel => exact ⟨(wrap64 (x8_1 + 1)), (by first | rfl | (simp; done) | (simp [*]; done)), H', ⟨by have := HK1.out; omega⟩, ⟨eG HB.out⟩⟩
     · rw [if_neg c5] at H; exact absurd H (by simp)
    · rw [if_neg c4] at H; exact absurd H (by simp)
   ·
    rw [if_neg c3] at H; have c3b0 : decide (x8_1 < (l0.length : Int)) = false := decide_eq_false c3; clear c3; obtain rfl := Option.some.inj H; go_wp2; go_ret
    exact ⟨by first | rfl | (simp [errW_none, errW_some] <;> rfl) | (simp [*, errW_none, errW_some] <;> rfl), eG HB.out⟩
def api_Liquid_69_at_70.f (k : Nat) (l0 : List (S26))  : Option (Bool) := (api_Liquid_78_at_70.f k l0).bind fun t108 => (some (decide (t108 ≥ 0)))
set_option maxHeartbeats 8000000 in
set_option maxRecDepth 100000 in
theorem api_Liquid_69_at_70.calls (k : Nat) (A0 : Option Addr) (c0 : Nat) (l0 : List (S26))  (r : Bool) (w : World) (hr0 : Kd.C k26 w A0 l0.length l0) (hc0 : l0.length ≤ c0) (h : api_Liquid_69_at_70.f k l0 = some r) :
  Calls Tryd.prog 69 #[.slice A0 l0.length c0, .func (.func 70) #[] #[]] w fun e w' => e = .returned (.bool r) ∧ Below w.heap.size w w' := by
 have HR0 := Aside0.mk hr0; have HC0 := Aside0.mk hc0; clear hr0 hc0; have HB := Aside0.mk (Below.refl w.heap.size w); have H : ((api_Liquid_78_at_70.f k l0).bind fun t108 => (some (decide (t108 ≥ 0)))) = some r := h; clear h; replace H := Option.bind_eq_some_iff.mp H; obtain ⟨t108, A30, H⟩ := H; replace H : (some (decide (t108 ≥ 0))) = some r := H; have A3 := Aside0.mk A30; clear A30; obtain rfl := Option.some.inj H; go_enter Tryd.func69, Tryd.ntmps69
 go_wp2_with (first | ((with_reducible refine gate_callee (f := 78) rfl ?_); refine goesL_ (some 7) rfl rfl Tryd.func78 (by kernel_rfl) rfl #[.slice A0 l0.length c0, .func (.func 70) #[] #[]] rfl (by (try simp only [List.map_toArray, List.map_cons, List.map_nil]); first | done | rfl | (simp only [List.length_drop, List.length_take]; rfl)) ?_; (with_reducible refine (api_Liquid_78_at_70.calls k _ _ l0 t108 _ ?side1 ?side2 A3.out).mono ?_); (case side1 => repeat (first | exact HR0.out | (with_reducible refine Kd.C_alloc ?_ _) | (with_reducible refine Kd.C_drewN ?_ _) | (with_reducible refine Kd.C_drew ?_))); (case side2 => exact HC0.out); rintro e w4 ⟨rfl, hb⟩; refine ⟨_, rfl, ?_⟩; have n0_ := Aside0.mk (below_step (eG HB.out) hb); clear HB; have HB := n0_; clear n0_; (try clear hb); (try clear hb2); (try clear hk); (try clear hi)))
 go_ret
 exact ⟨by first | rfl | (simp [errW_none, errW_some] <;> rfl) | (simp [*, errW_none, errW_some] <;> rfl), eG HB.out⟩
def mix_Sum.f (k : Nat) (l0 : List (S26)) : Option (Int × Int × Int) := if (l0.length : Int) > 8 then (some (0, 0, 8)) else ((api_Liquid_69_at_70.f k l0).bind fun t110 => (if t110 = true then (some (0, 0, 1)) else ((mix_total.f k l0).bind fun bt111 => ((mix_plain.f bt111.1 bt111.2).bind fun t114 => (if t114 = true then (some (bt111.1, bt111.2, 0)) else (some (0, 0, 15)))))))
set_option maxHeartbeats 8000000 in
set_option maxRecDepth 100000 in
theorem mix_Sum.calls (k : Nat) (A0 : Option Addr) (c0 : Nat) (l0 : List (S26)) (r1 : Int) (r2 : Int) (r3 : Int) (w : World) (hr0 : Kd.C k26 w A0 l0.length l0) (hc0 : l0.length ≤ c0) (h : mix_Sum.f k l0 = some (r1, r2, r3)) :
  Calls Tryd.prog 57 #[.slice A0 l0.length c0] w fun e w' => e = .returned (.tuple #[.agg #[.int .i64 r1, .int .i64 r2], .int .i64 r3]) ∧ Below w.heap.size w w' := by
 have hu26 := Tryd.underlying26; have HR0 := Aside0.mk hr0; have HC0 := Aside0.mk hc0; clear hr0 hc0; have HB := Aside0.mk (Below.refl w.heap.size w); have H : (if (l0.length : Int) > 8 then (some (0, 0, 8)) else ((api_Liquid_69_at_70.f k l0).bind fun t110 => (if t110 = true then (some (0, 0, 1)) else ((mix_total.f k l0).bind fun bt111 => ((mix_plain.f bt111.1 bt111.2).bind fun t114 => (if t114 = true then (some (bt111.1, bt111.2, 0)) else (some (0, 0, 15)))))))) = some (r1, r2, r3) := h; clear h; by_cases c2 : (l0.length : Int) > 8
 ·
  rw [if_pos c2] at H; have c2b0 : decide (8 < (l0.length : Int)) = true := decide_eq_true c2; have c2b1 : decide (8 < l0.length) = true := decide_eq_true (by omega); clear c2; simp only [Option.some.injEq, Prod.mk.injEq] at H; obtain ⟨rfl, rfl, rfl⟩ := H; go_enter Tryd.func57, Tryd.ntmps57
  go_wp2_with (first | ((with_reducible refine gate_dst (N := 2) rfl ?_); refine box_event ?hg (N := 2) ?hd (cs := #[.int .i64 0, .int .i64 0]) (t := 26) ?hr ?_; (case hd => rfl); (case hg => rfl); (case hr => first | (go_simp; done) | (go_simp; rfl)); intro gb109 hg w3 hbox hb; have n0_ := Aside0.mk (below_step (eG HB.out) hb); have n1_ := Aside0.mk (hbox); have n2_ := Aside0.mk ((by rw [hg]; exact (below_size (eG HB.out)) : w.heap.size ≤ gb109)); have n3_ := Aside0.mk ((by rw [hg]; exact (below_size (eG HB.out)) : w.heap.size ≤ gb109)); clear HB; have HB := n0_; have BK109 := n1_; have GW109 := n2_; have GE109 := n3_; have ig109_ := geI GE109; clear n0_ n1_ n2_ n3_; clear hb hbox hg; have hcz4_0 : w3.cell? ⟨gb109, 0, none⟩ = some (.int .i64 0) := (blk_cell BK109.out 0).trans rfl; have hcz4_1 : w3.cell? ⟨gb109, 1, none⟩ = some (.int .i64 0) := (blk_cell BK109.out 1).trans rfl; have hfz4_0 := blk_frozen BK109.out 0; have hfz4_1 := blk_frozen BK109.out 1))
  refine bodyPost_ret (results_ct rfl _ _ gb109 26 #[.int .i64 0, .int .i64 0] (0, 0) _ rfl (by (with_reducible repeat first | apply bN | apply bD | apply bA); refine blk_put (cs := #[.int .i64 0, .int .i64 0]) ?_ 1 _ rfl; (with_reducible repeat first | apply bN | apply bD | apply bA); refine blk_put (cs := #[.int .i64 0, .int .i64 0]) ?_ 0 _ rfl; (with_reducible repeat first | apply bN | apply bD | apply bA); exact BK109.out) Tryd.underlying26 rfl (by kernel_rfl)) rfl ?_; exact ⟨by first | rfl | (simp [errW_none, errW_some] <;> rfl) | (simp [*, errW_none, errW_some] <;> rfl), eG HB.out⟩
 ·
  rw [if_neg c2] at H; have c2b0 : decide (8 < (l0.length : Int)) = false := decide_eq_false c2; have c2b1 : decide (8 < l0.length) = false := decide_eq_false (by omega); clear c2; replace H := Option.bind_eq_some_iff.mp H; obtain ⟨t110, A50, H⟩ := H; replace H : (if t110 = true then (some (0, 0, 1)) else ((mix_total.f k l0).bind fun bt111 => ((mix_plain.f bt111.1 bt111.2).bind fun t114 => (if t114 = true then (some (bt111.1, bt111.2, 0)) else (some (0, 0, 15)))))) = some (r1, r2, r3) := H; have A5 := Aside0.mk A50; clear A50; by_cases c6 : t110 = true
  ·
   subst c6; replace H : (some (0, 0, 1)) = some (r1, r2, r3) := by rw [if_pos rfl] at H; exact H
   simp only [Option.some.injEq, Prod.mk.injEq] at H; obtain ⟨rfl, rfl, rfl⟩ := H; go_enter Tryd.func57, Tryd.ntmps57
   go_wp2_with (first | ((with_reducible refine gate_dst (N := 2) rfl ?_); refine box_event ?hg (N := 2) ?hd (cs := #[.int .i64 0, .int .i64 0]) (t := 26) ?hr ?_; (case hd => rfl); (case hg => rfl); (case hr => first | (go_simp; done) | (go_simp; rfl)); intro gb109 hg w7 hbox hb; have n0_ := Aside0.mk (below_step (eG HB.out) hb); have n1_ := Aside0.mk (hbox); have n2_ := Aside0.mk ((by rw [hg]; exact (below_size (eG HB.out)) : w.heap.size ≤ gb109)); have n3_ := Aside0.mk ((by rw [hg]; exact (below_size (eG HB.out)) : w.heap.size ≤ gb109)); clear HB; have HB := n0_; have BK109 := n1_; have GW109 := n2_; have GE109 := n3_; have ig109_ := geI GE109; clear n0_ n1_ n2_ n3_; clear hb hbox hg) | ((with_reducible refine gate_callee (f := 69) rfl ?_); refine goesL_ (some 12) rfl rfl Tryd.func69 (by kernel_rfl) rfl #[.slice A0 l0.length c0, .func (.func 70) #[] #[]] rfl (by (try simp only [List.map_toArray, List.map_cons, List.map_nil]); first | done | rfl | (simp only [List.length_drop, List.length_take]; rfl)) ?_; (with_reducible refine (api_Liquid_69_at_70.calls k _ _ l0 true _ ?side1 ?side2 A5.out).mono ?_); (case side1 => repeat (first | exact (Kd.C_below HR0.out HB.out) | (with_reducible refine Kd.C_alloc ?_ _) | (with_reducible refine Kd.C_drewN ?_ _) | (with_reducible refine Kd.C_drew ?_))); (case side2 => exact HC0.out); rintro e w8 ⟨rfl, hb⟩; refine ⟨_, rfl, ?_⟩; have n0_ := Aside0.mk (blk_below (bG BK109.out) hb); have n1_ := Aside0.mk (below_step (eG HB.out) hb); clear BK109; clear HB; have BK109 := n0_; have HB := n1_; clear n0_ n1_; (try clear hb); (try clear hb2); (try clear hk); (try clear hi); have hcz9_0 : w8.cell? ⟨gb109, 0, none⟩ = some (.int .i64 0) := (blk_cell BK109.out 0).trans rfl; have hcz9_1 : w8.cell? ⟨gb109, 1, none⟩ = some (.int .i64 0) := (blk_cell BK109.out 1).trans rfl; have hfz9_0 := blk_frozen BK109.out 0; have hfz9_1 := blk_frozen BK109.out 1))
   refine bodyPost_ret (results_ct rfl _ _ gb109 26 #[.int .i64 0, .int .i64 0] (0, 0) _ rfl (by (with_reducible repeat first | apply bN | apply bD | apply bA); refine blk_put (cs := #[.int .i64 0, .int .i64 0]) ?_ 1 _ rfl; (with_reducible repeat first | apply bN | apply bD | apply bA); refine blk_put (cs := #[.int .i64 0, .int .i64 0]) ?_ 0 _ rfl; (with_reducible repeat first | apply bN | apply bD | apply bA); exact BK109.out) Tryd.underlying26 rfl (by kernel_rfl)) rfl ?_; exact ⟨by first | rfl | (simp [errW_none, errW_some] <;> rfl) | (simp [*, errW_none, errW_some] <;> rfl), eG HB.out⟩
  ·
   replace c6 := Bool.eq_false_iff.mpr c6; subst c6; replace H : ((mix_total.f k l0).bind fun bt111 => ((mix_plain.f bt111.1 bt111.2).bind fun t114 => (if t114 = true then (some (bt111.1, bt111.2, 0)) else (some (0, 0, 15))))) = some (r1, r2, r3) := by rw [if_neg (show ¬ (false = true) by decide)] at H; exact H
   replace H := Option.bind_eq_some_iff.mp H; obtain ⟨⟨t111, t112⟩, A100, H⟩ := H; replace H : ((mix_plain.f t111 t112).bind fun t114 => (if t114 = true then (some (t111, t112, 0)) else (some (0, 0, 15)))) = some (r1, r2, r3) := H; have A10 := Aside0.mk A100; clear A100; replace H := Option.bind_eq_some_iff.mp H; obtain ⟨t114, A110, H⟩ := H; replace H : (if t114 = true then (some (t111, t112, 0)) else (some (0, 0, 15))) = some (r1, r2, r3) := H; have A11 := Aside0.mk A110; clear A110; by_cases c12 : t114 = true
   ·
    subst c12; replace H : (some (t111, t112, 0)) = some (r1, r2, r3) := by rw [if_pos rfl] at H; exact H
    simp only [Option.some.injEq, Prod.mk.injEq] at H; obtain ⟨rfl, rfl, rfl⟩ := H; go_enter Tryd.func57, Tryd.ntmps57
    go_wp2_with (first | ((with_reducible refine gate_dst (N := 2) rfl ?_); refine box_event ?hg (N := 2) ?hd (cs := #[.int .i64 0, .int .i64 0]) (t := 26) ?hr ?_; (case hd => rfl); (case hg => rfl); (case hr => first | (go_simp; done) | (go_simp; rfl)); intro gb109 hg w13 hbox hb; have n0_ := Aside0.mk (below_step (eG HB.out) hb); have n1_ := Aside0.mk (hbox); have n2_ := Aside0.mk ((by rw [hg]; exact (below_size (eG HB.out)) : w.heap.size ≤ gb109)); have n3_ := Aside0.mk ((by rw [hg]; exact (below_size (eG HB.out)) : w.heap.size ≤ gb109)); clear HB; have HB := n0_; have BK109 := n1_; have GW109 := n2_; have GE109 := n3_; have ig109_ := geI GE109; clear n0_ n1_ n2_ n3_; clear hb hbox hg) | ((with_reducible refine gate_callee (f := 69) rfl ?_); refine goesL_ (some 12) rfl rfl Tryd.func69 (by kernel_rfl) rfl #[.slice A0 l0.length c0, .func (.func 70) #[] #[]] rfl (by (try simp only [List.map_toArray, List.map_cons, List.map_nil]); first | done | rfl | (simp only [List.length_drop, List.length_take]; rfl)) ?_; (with_reducible refine (api_Liquid_69_at_70.calls k _ _ l0 false _ ?side1 ?side2 A5.out).mono ?_); (case side1 => repeat (first | exact (Kd.C_below HR0.out HB.out) | (with_reducible refine Kd.C_alloc ?_ _) | (with_reducible refine Kd.C_drewN ?_ _) | (with_reducible refine Kd.C_drew ?_))); (case side2 => exact HC0.out); rintro e w14 ⟨rfl, hb⟩; refine ⟨_, rfl, ?_⟩; have n0_ := Aside0.mk (blk_below (bG BK109.out) hb); have n1_ := Aside0.mk (below_step (eG HB.out) hb); clear BK109; clear HB; have BK109 := n0_; have HB := n1_; clear n0_ n1_; (try clear hb); (try clear hb2); (try clear hk); (try clear hi)) | ((with_reducible refine gate_callee (f := 72) rfl ?_); refine goesL_ (some 15) rfl rfl Tryd.func72 (by kernel_rfl) rfl #[.slice A0 l0.length c0] rfl (by (try simp only [List.map_toArray, List.map_cons, List.map_nil]); first | done | rfl | (simp only [List.length_drop, List.length_take]; rfl)) ?_; (with_reducible refine (mix_total.calls k _ _ l0 t111 t112 _ ?side1 ?side2 A10.out).mono ?_); (case side1 => repeat (first | exact (Kd.C_below HR0.out HB.out) | (with_reducible refine Kd.C_alloc ?_ _) | (with_reducible refine Kd.C_drewN ?_ _) | (with_reducible refine Kd.C_drew ?_))); (case side2 => exact HC0.out); rintro e w15 ⟨rfl, hb⟩; refine ⟨_, rfl, ?_⟩; have n0_ := Aside0.mk (blk_below (bG BK109.out) hb); have n1_ := Aside0.mk (below_step (eG HB.out) hb); clear BK109; clear HB; have BK109 := n0_; have HB := n1_; clear n0_ n1_; (try clear hb); (try clear hb2); (try clear hk); (try clear hi)) | ((with_reducible refine gate_dst (N := 4) rfl ?_); refine box_event ?hg (N := 4) ?hd (cs := #[.int .i64 0, .int .i64 0]) (t := 26) ?hr ?_; (case hd => rfl); (case hg => rfl); (case hr => first | (go_simp; done) | (go_simp; rfl)); intro gb113 hg w16 hbox hb; have n0_ := Aside0.mk (blk_below (bG BK109.out) hb); have n1_ := Aside0.mk (below_step (eG HB.out) hb); have n2_ := Aside0.mk (hbox); have n3_ := Aside0.mk ((by rw [hg]; exact (below_size (eG HB.out)) : w.heap.size ≤ gb113)); have n4_ := Aside0.mk ((by rw [hg]; exact (below_size (eG HB.out)) : w.heap.size ≤ gb113)); have n5_ := Aside0.mk ((by rw [hg]; exact Nat.ne_of_lt (blk_lt (bG BK109.out)) : gb109 ≠ gb113)); have n6_ := Aside0.mk ((by rw [hg]; exact Nat.ne_of_gt (blk_lt (bG BK109.out)) : gb113 ≠ gb109)); clear BK109; clear HB; have BK109 := n0_; have HB := n1_; have BK113 := n2_; have GW113 := n3_; have GE113 := n4_; have ig113_ := geI GE113; have NB109_113 := n5_; have NB113_109 := n6_; clear n0_ n1_ n2_ n3_ n4_ n5_ n6_; clear hb hbox hg; have hnb17 := NB113_109.out; have hnc17 := NB109_113.out; have hcz18_0 : w16.cell? ⟨gb113, 0, none⟩ = some (.int .i64 0) := (blk_cell BK113.out 0).trans rfl; have hcz18_1 : w16.cell? ⟨gb113, 1, none⟩ = some (.int .i64 0) := (blk_cell BK113.out 1).trans rfl; have hfz18_0 := blk_frozen BK113.out 0; have hfz18_1 := blk_frozen BK113.out 1) | ((with_reducible refine gate_callee (f := 71) rfl ?_); refine goesL_ (some 17) rfl rfl Tryd.func71 (by kernel_rfl) rfl #[.agg #[.int .i64 t111, .int .i64 t112]] rfl (by (try simp only [List.map_toArray, List.map_cons, List.map_nil]); first | done | rfl | (simp only [List.length_drop, List.length_take]; rfl)) ?_; (with_reducible refine (mix_plain.calls t111 t112 true _ A11.out).mono ?_); rintro e w19 ⟨rfl, hb⟩; refine ⟨_, rfl, ?_⟩; have n0_ := Aside0.mk (blk_below (g := gb109) (o := .cells #[.int .i64 0, .int .i64 0] 26 (0, 0)) (by (with_reducible repeat first | apply bN | apply bD | apply bA); refine blk_far ?_ NB109_113.out _; (with_reducible repeat first | apply bN | apply bD | apply bA); refine blk_far ?_ NB109_113.out _; (with_reducible repeat first | apply bN | apply bD | apply bA); exact BK109.out) hb); have n1_ := Aside0.mk (blk_below (g := gb113) (o := .cells #[.int .i64 t111, .int .i64 t112] 26 (0, 0)) (by (with_reducible repeat first | apply bN | apply bD | apply bA); refine blk_put (cs := #[.int .i64 t111, .int .i64 0]) ?_ 1 _ rfl; (with_reducible repeat first | apply bN | apply bD | apply bA); refine blk_put (cs := #[.int .i64 0, .int .i64 0]) ?_ 0 _ rfl; (with_reducible repeat first | apply bN | apply bD | apply bA); exact BK113.out) hb); have n2_ := Aside0.mk (below_step (eG HB.out) hb); clear BK109; clear BK113; clear HB; have BK109 := n0_; have BK113 := n1_; have HB := n2_; clear n0_ n1_ n2_; (try clear hb); (try clear hb2); (try clear hk); (try clear hi); have hcz20_0 : w19.cell? ⟨gb113, 0, none⟩ = some (.int .i64 t111) := (blk_cell BK113.out 0).trans rfl; have hcz20_1 : w19.cell? ⟨gb113, 1, none⟩ = some (.int .i64 t112) := (blk_cell BK113.out 1).trans rfl; have hfz20_0 := blk_frozen BK113.out 0; have hfz20_1 := blk_frozen BK113.out 1; have hcz21_0 : w19.cell? ⟨gb109, 0, none⟩ = some (.int .i64 0) := (blk_cell BK109.out 0).trans rfl; have hcz21_1 : w19.cell? ⟨gb109, 1, none⟩ = some (.int .i64 0) := (blk_cell BK109.out 1).trans rfl; have hfz21_0 := blk_frozen BK109.out 0; have hfz21_1 := blk_frozen BK109.out 1))
    refine bodyPost_ret (results_ct rfl _ _ gb109 26 #[.int .i64 t111, .int .i64 t112] (0, 0) _ rfl (by (with_reducible repeat first | apply bN | apply bD | apply bA); refine blk_put (cs := #[.int .i64 t111, .int .i64 0]) ?_ 1 _ rfl; (with_reducible repeat first | apply bN | apply bD | apply bA); refine blk_put (cs := #[.int .i64 0, .int .i64 0]) ?_ 0 _ rfl; (with_reducible repeat first | apply bN | apply bD | apply bA); exact BK109.out) Tryd.underlying26 rfl (by kernel_rfl)) rfl ?_; exact ⟨by first | rfl | (simp [errW_none, errW_some] <;> rfl) | (simp [*, errW_none, errW_some] <;> rfl), eG HB.out⟩
   ·
    replace c12 := Bool.eq_false_iff.mpr c12; subst c12; replace H : (some (0, 0, 15)) = some (r1, r2, r3) := by rw [if_neg (show ¬ (false = true) by decide)] at H; exact H
    simp only [Option.some.injEq, Prod.mk.injEq] at H; obtain ⟨rfl, rfl, rfl⟩ := H; go_enter Tryd.func57, Tryd.ntmps57
    go_wp2_with (first | ((with_reducible refine gate_dst (N := 2) rfl ?_); refine box_event ?hg (N := 2) ?hd (cs := #[.int .i64 0, .int .i64 0]) (t := 26) ?hr ?_; (case hd => rfl); (case hg => rfl); (case hr => first | (go_simp; done) | (go_simp; rfl)); intro gb109 hg w22 hbox hb; have n0_ := Aside0.mk (below_step (eG HB.out) hb); have n1_ := Aside0.mk (hbox); have n2_ := Aside0.mk ((by rw [hg]; exact (below_size (eG HB.out)) : w.heap.size ≤ gb109)); have n3_ := Aside0.mk ((by rw [hg]; exact (below_size (eG HB.out)) : w.heap.size ≤ gb109)); clear HB; have HB := n0_; have BK109 := n1_; have GW109 := n2_; have GE109 := n3_; have ig109_ := geI GE109; clear n0_ n1_ n2_ n3_; clear hb hbox hg) | ((with_reducible refine gate_callee (f := 69) rfl ?_); refine goesL_ (some 12) rfl rfl Tryd.func69 (by kernel_rfl) rfl #[.slice A0 l0.length c0, .func (.func 70) #[] #[]] rfl (by (try simp only [List.map_toArray, List.map_cons, List.map_nil]); first | done | rfl | (simp only [List.length_drop, List.length_take]; rfl)) ?_; (with_reducible refine (api_Liquid_69_at_70.calls k _ _ l0 false _ ?side1 ?side2 A5.out).mono ?_); (case side1 => repeat (first | exact (Kd.C_below HR0.out HB.out) | (with_reducible refine Kd.C_alloc ?_ _) | (with_reducible refine Kd.C_drewN ?_ _) | (with_reducible refine Kd.C_drew ?_))); (case side2 => exact HC0.out); rintro e w23 ⟨rfl, hb⟩; refine ⟨_, rfl, ?_⟩; have n0_ := Aside0.mk (blk_below (bG BK109.out) hb); have n1_ := Aside0.mk (below_step (eG HB.out) hb); clear BK109; clear HB; have BK109 := n0_; have HB := n1_; clear n0_ n1_; (try clear hb); (try clear hb2); (try clear hk); (try clear hi)) | ((with_reducible refine gate_callee (f := 72) rfl ?_); refine goesL_ (some 15) rfl rfl Tryd.func72 (by kernel_rfl) rfl #[.slice A0 l0.length c0] rfl (by (try simp only [List.map_toArray, List.map_cons, List.map_nil]); first | done | rfl | (simp only [List.length_drop, List.length_take]; rfl)) ?_; (with_reducible refine (mix_total.calls k _ _ l0 t111 t112 _ ?side1 ?side2 A10.out).mono ?_); (case side1 => repeat (first | exact (Kd.C_below HR0.out HB.out) | (with_reducible refine Kd.C_alloc ?_ _) | (with_reducible refine Kd.C_drewN ?_ _) | (with_reducible refine Kd.C_drew ?_))); (case side2 => exact HC0.out); rintro e w24 ⟨rfl, hb⟩; refine ⟨_, rfl, ?_⟩; have n0_ := Aside0.mk (blk_below (bG BK109.out) hb); have n1_ := Aside0.mk (below_step (eG HB.out) hb); clear BK109; clear HB; have BK109 := n0_; have HB := n1_; clear n0_ n1_; (try clear hb); (try clear hb2); (try clear hk); (try clear hi)) | ((with_reducible refine gate_dst (N := 4) rfl ?_); refine box_event ?hg (N := 4) ?hd (cs := #[.int .i64 0, .int .i64 0]) (t := 26) ?hr ?_; (case hd => rfl); (case hg => rfl); (case hr => first | (go_simp; done) | (go_simp; rfl)); intro gb113 hg w25 hbox hb; have n0_ := Aside0.mk (blk_below (bG BK109.out) hb); have n1_ := Aside0.mk (below_step (eG HB.out) hb); have n2_ := Aside0.mk (hbox); have n3_ := Aside0.mk ((by rw [hg]; exact (below_size (eG HB.out)) : w.heap.size ≤ gb113)); have n4_ := Aside0.mk ((by rw [hg]; exact (below_size (eG HB.out)) : w.heap.size ≤ gb113)); have n5_ := Aside0.mk ((by rw [hg]; exact Nat.ne_of_lt (blk_lt (bG BK109.out)) : gb109 ≠ gb113)); have n6_ := Aside0.mk ((by rw [hg]; exact Nat.ne_of_gt (blk_lt (bG BK109.out)) : gb113 ≠ gb109)); clear BK109; clear HB; have BK109 := n0_; have HB := n1_; have BK113 := n2_; have GW113 := n3_; have GE113 := n4_; have ig113_ := geI GE113; have NB109_113 := n5_; have NB113_109 := n6_; clear n0_ n1_ n2_ n3_ n4_ n5_ n6_; clear hb hbox hg; have hnb26 := NB113_109.out; have hnc26 := NB109_113.out; have hcz27_0 : w25.cell? ⟨gb113, 0, none⟩ = some (.int .i64 0) := (blk_cell BK113.out 0).trans rfl; have hcz27_1 : w25.cell? ⟨gb113, 1, none⟩ = some (.int .i64 0) := (blk_cell BK113.out 1).trans rfl; have hfz27_0 := blk_frozen BK113.out 0; have hfz27_1 := blk_frozen BK113.out 1) | ((with_reducible refine gate_callee (f := 71) rfl ?_); refine goesL_ (some 17) rfl rfl Tryd.func71 (by kernel_rfl) rfl #[.agg #[.int .i64 t111, .int .i64 t112]] rfl (by (try simp only [List.map_toArray, List.map_cons, List.map_nil]); first | done | rfl | (simp only [List.length_drop, List.length_take]; rfl)) ?_; (with_reducible refine (mix_plain.calls t111 t112 false _ A11.out).mono ?_); rintro e w28 ⟨rfl, hb⟩; refine ⟨_, rfl, ?_⟩; have n0_ := Aside0.mk (blk_below (g := gb109) (o := .cells #[.int .i64 0, .int .i64 0] 26 (0, 0)) (by (with_reducible repeat first | apply bN | apply bD | apply bA); refine blk_far ?_ NB109_113.out _; (with_reducible repeat first | apply bN | apply bD | apply bA); refine blk_far ?_ NB109_113.out _; (with_reducible repeat first | apply bN | apply bD | apply bA); exact BK109.out) hb); have n1_ := Aside0.mk (blk_below (g := gb113) (o := .cells #[.int .i64 t111, .int .i64 t112] 26 (0, 0)) (by (with_reducible repeat first | apply bN | apply bD | apply bA); refine blk_put (cs := #[.int .i64 t111, .int .i64 0]) ?_ 1 _ rfl; (with_reducible repeat first | apply bN | apply bD | apply bA); refine blk_put (cs := #[.int .i64 0, .int .i64 0]) ?_ 0 _ rfl; (with_reducible repeat first | apply bN | apply bD | apply bA); exact BK113.out) hb); have n2_ := Aside0.mk (below_step (eG HB.out) hb); clear BK109; clear BK113; clear HB; have BK109 := n0_; have BK113 := n1_; have HB := n2_; clear n0_ n1_ n2_; (try clear hb); (try clear hb2); (try clear hk); (try clear hi); have hcz29_0 : w28.cell? ⟨gb109, 0, none⟩ = some (.int .i64 0) := (blk_cell BK109.out 0).trans rfl; have hcz29_1 : w28.cell? ⟨gb109, 1, none⟩ = some (.int .i64 0) := (blk_cell BK109.out 1).trans rfl; have hfz29_0 := blk_frozen BK109.out 0; have hfz29_1 := blk_frozen BK109.out 1))
    refine bodyPost_ret (results_ct rfl _ _ gb109 26 #[.int .i64 0, .int .i64 0] (0, 0) _ rfl (by (with_reducible repeat first | apply bN | apply bD | apply bA); refine blk_put (cs := #[.int .i64 0, .int .i64 0]) ?_ 1 _ rfl; (with_reducible repeat first | apply bN | apply bD | apply bA); refine blk_put (cs := #[.int .i64 0, .int .i64 0]) ?_ 0 _ rfl; (with_reducible repeat first | apply bN | apply bD | apply bA); exact BK109.out) Tryd.underlying26 rfl (by kernel_rfl)) rfl ?_; exact ⟨by first | rfl | (simp [errW_none, errW_some] <;> rfl) | (simp [*, errW_none, errW_some] <;> rfl), eG HB.out⟩
def lot_plain.f (k : Nat) (a0_0 : Int) (a0_1 : Int) : Option (Bool) := (mix_Sum.f k (([(⟨a0_0, a0_1⟩ : S26)] : List (S26)))).bind fun bt119 => (some (bt119.2.2 == 0))
set_option maxHeartbeats 8000000 in
set_option maxRecDepth 100000 in
theorem lot_plain.calls (k : Nat) (a0_0 : Int) (a0_1 : Int) (r : Bool) (w : World) (h : lot_plain.f k a0_0 a0_1 = some r) :
  Calls Tryd.prog 35 #[.agg #[.int .i64 a0_0, .int .i64 a0_1]] w fun e w' => e = .returned (.bool r) ∧ Below w.heap.size w w' := by
 have hu26 := Tryd.underlying26; have HB := Aside0.mk (Below.refl w.heap.size w); have H : ((mix_Sum.f k (([(⟨a0_0, a0_1⟩ : S26)] : List (S26)))).bind fun bt119 => (some (bt119.2.2 == 0))) = some r := h; clear h; obtain ⟨y116, hy116⟩ : ∃ y_ : List (S26), y_ = (([(⟨a0_0, a0_1⟩ : S26)] : List (S26))) := ⟨_, rfl⟩; replace H : ((mix_Sum.f k y116).bind fun bt119 => (some (bt119.2.2 == 0))) = some r := by first | (rw [hy116]; with_reducible exact H) | (have H2_ := (Option.bind_some _ _).symm.trans H; rw [hy116]; with_reducible exact H2_) | (have H2_ := (Option.bind_some _ _).symm.trans H; with_reducible exact H2_) | with_reducible exact H | (rw [hy116]; exact H) | exact H
 have Ny116 := Aside0.mk hy116; clear hy116; replace H := Option.bind_eq_some_iff.mp H; obtain ⟨⟨t119, t120, t121⟩, A20, H⟩ := H; replace H : (some (t121 == 0)) = some r := H; have A2 := Aside0.mk A20; clear A20; obtain rfl := Option.some.inj H; go_enter Tryd.func35, Tryd.ntmps35
 go_wp2_with (first | ((with_reducible refine gate_dst (N := 1) rfl ?_); refine box_event ?hg (N := 1) ?hd (cs := #[.int .i64 a0_0, .int .i64 a0_1]) (t := 26) ?hr ?_; (case hd => rfl); (case hg => rfl); (case hr => first | (go_simp; done) | (go_simp; rfl)); intro gb115 hg w3 hbox hb; have n0_ := Aside0.mk (below_step (eG HB.out) hb); have n1_ := Aside0.mk (hbox); have n2_ := Aside0.mk ((by rw [hg]; exact (below_size (eG HB.out)) : w.heap.size ≤ gb115)); have n3_ := Aside0.mk ((by rw [hg]; exact (below_size (eG HB.out)) : w.heap.size ≤ gb115)); clear HB; have HB := n0_; have BK115 := n1_; have GW115 := n2_; have GE115 := n3_; have ig115_ := geI GE115; clear n0_ n1_ n2_ n3_; clear hb hbox hg; have hcz4_0 : w3.cell? ⟨gb115, 0, none⟩ = some (.int .i64 a0_0) := (blk_cell BK115.out 0).trans rfl; have hcz4_1 : w3.cell? ⟨gb115, 1, none⟩ = some (.int .i64 a0_1) := (blk_cell BK115.out 1).trans rfl; have hfz4_0 := blk_frozen BK115.out 0; have hfz4_1 := blk_frozen BK115.out 1) | ((with_reducible refine gate_dst (N := 7) rfl ?_); refine Kd.R_lit k26 _ 26 ?hg (N := 7) ?hd (xs := ([(⟨a0_0, a0_1⟩ : S26)] : List (S26))) (inner := [.int .i64 a0_0, .int .i64 a0_1]) (ok := fun _ => True) (okp := fun _ => True) ?hr ?hp (fun _ hk => hk) trivial (Below.refl _ _) (Nat.le_refl _) (by simp) ?_; (case hd => rfl); (case hg => rfl); (case hr => first | (go_simp; done) | (go_simp; rfl)); (case hp => exact (Reps.c2 (show Kd.M k26 _ _ _ (⟨a0_0, a0_1⟩ : S26) [.int .i64 a0_0, .int .i64 a0_1] from (k26_mkM _ _ _ (⟨a0_0, a0_1⟩ : S26) )) (Reps.none _ _))); intro v117 w5 ho6 hb hg_ hnew_; clear hg_ hnew_; (first | rw [← Ny116.out] at ho6 | (simp only [Int.reduceToNat] at ho6; rw [← Ny116.out] at ho6)); have n0_ := Aside0.mk (Kd.R_lower (Kd.R_newB ho6 (bG BK115.out)) (below_size (eG HB.out))); have n1_ := Aside0.mk (blk_below (bG BK115.out) hb); have n2_ := Aside0.mk (below_step (eG HB.out) hb); clear BK115; clear HB; have HO118 := n0_; have BK115 := n1_; have HB := n2_; clear n0_ n1_ n2_; clear hb ho6; obtain ⟨Ao7, co7, eo7⟩ := Kd.R_slice HO118.out; subst eo7) | ((with_reducible refine gate_callee (f := 57) rfl ?_); refine goesL_ (some 8) rfl rfl Tryd.func57 (by kernel_rfl) rfl #[.slice Ao7 y116.length co7] rfl (by (try simp only [List.map_toArray, List.map_cons, List.map_nil]); first | done | rfl | (simp only [List.length_drop, List.length_take]; rfl)) ?_; (with_reducible refine (mix_Sum.calls k _ _ y116 t119 t120 t121 _ ?side1 ?side2 A2.out).mono ?_); (case side1 => repeat (first | exact (Kd.R_reads' HO118.out).2.2 | (with_reducible refine Kd.C_alloc ?_ _) | (with_reducible refine Kd.C_drewN ?_ _) | (with_reducible refine Kd.C_drew ?_))); (case side2 => exact (Kd.R_reads' HO118.out).2.1); rintro e w8 ⟨rfl, hb⟩; refine ⟨_, rfl, ?_⟩; have n0_ := Aside0.mk (Kd.R_below (rG HO118.out) hb); have n1_ := Aside0.mk (blk_below (bG BK115.out) hb); have n2_ := Aside0.mk (below_step (eG HB.out) hb); clear HO118; clear BK115; clear HB; have HO118 := n0_; have BK115 := n1_; have HB := n2_; clear n0_ n1_ n2_; (try clear hb); (try clear hb2); (try clear hk); (try clear hi)) | ((with_reducible refine gate_dst (N := 3) rfl ?_); refine box_event ?hg (N := 3) ?hd (cs := #[.int .i64 0, .int .i64 0]) (t := 26) ?hr ?_; (case hd => rfl); (case hg => rfl); (case hr => first | (go_simp; done) | (go_simp; rfl)); intro gb122 hg w9 hbox hb; have n0_ := Aside0.mk (Kd.R_below (Kd.R_elderB (rG HO118.out) gb122 (Nat.le_of_eq hg.symm)) hb); have n1_ := Aside0.mk (blk_below (bG BK115.out) hb); have n2_ := Aside0.mk (below_step (eG HB.out) hb); have n3_ := Aside0.mk (hbox); have n4_ := Aside0.mk ((by rw [hg]; exact (below_size (eG HB.out)) : w.heap.size ≤ gb122)); have n5_ := Aside0.mk ((by rw [hg]; exact (below_size (eG HB.out)) : w.heap.size ≤ gb122)); have n6_ := Aside0.mk ((by rw [hg]; exact Nat.ne_of_lt (blk_lt (bG BK115.out)) : gb115 ≠ gb122)); have n7_ := Aside0.mk ((by rw [hg]; exact Nat.ne_of_gt (blk_lt (bG BK115.out)) : gb122 ≠ gb115)); clear HO118; clear BK115; clear HB; have HO118 := n0_; have BK115 := n1_; have HB := n2_; have BK122 := n3_; have GW122 := n4_; have GE122 := n5_; have ig122_ := geI GE122; have NB115_122 := n6_; have NB122_115 := n7_; clear n0_ n1_ n2_ n3_ n4_ n5_ n6_ n7_; clear hb hbox hg; have hnb10 := NB122_115.out; have hnc10 := NB115_122.out; have hcz11_0 : w9.cell? ⟨gb122, 0, none⟩ = some (.int .i64 0) := (blk_cell BK122.out 0).trans rfl; have hcz11_1 : w9.cell? ⟨gb122, 1, none⟩ = some (.int .i64 0) := (blk_cell BK122.out 1).trans rfl; have hfz11_0 := blk_frozen BK122.out 0; have hfz11_1 := blk_frozen BK122.out 1))
 go_ret
 exact ⟨by first | rfl | (simp [errW_none, errW_some] <;> rfl) | (simp [*, errW_none, errW_some] <;> rfl), eG HB.out⟩
end Go.Proofs.YtgjoenoknknoiaaDoor.Pr
namespace Go.Proofs.YtgjoenoknknoiaaDoor.Pr
open Go.RowKit Go.Proofs.YtgjoenoknknoiaaDoorW.PrintWords Go.Proofs.YtgjoenoknknoiaaDoorW.PrintLast Go.Proofs.YtgjoenoknknoiaaDoorW.PrintMore Go.Proofs.YtgjoenoknknoiaaDoor.X
attribute [local go_sem] max2_int min2_int max_two min_two max_three min_three max_four min_four   -- for this text's walks alone
set_option linter.unusedVariables false
set_option linter.unusedSimpArgs false
def lot_shares.l0 : Nat → Int → List (S35) → Int → Int → Int → Int → Int → List (S35) → Option (Int)
 | 0, _, _, _, _, _, _, _, _ => none
 | k + 1, x3, x11, x12, x13, x124000, x124001, x124002, x124003 => if x13 < x12 then (if 0 ≤ x13 then (if x13 < (x11.length : Int) then (if ((rd_T35 x11 x13).f0) < 1 then (some 10) else (if ((rd_T35 x11 x13).f0) > 1073741824 then (some 10) else (if ((rd_T35 x11 x13).f1) < 1 then (some 10) else (if ((rd_T35 x11 x13).f1) > 10737418240000 then (some 10) else (if x13 > 0 then (if 0 ≤ (wrap64 (x13 - 1)) then (if (wrap64 (x13 - 1)) < (x124003.length : Int) then (if ((rd_T35 x124003 (wrap64 (x13 - 1))).f0) ≥ ((rd_T35 x11 x13).f0) then (some 10) else (lot_shares.l0 k (wrap64 (x3 + ((rd_T35 x11 x13).f1))) x11 x12 (wrap64 (x13 + 1)) x124000 x124001 x124002 x124003)) else (none)) else (none)) else (lot_shares.l0 k (wrap64 (x3 + ((rd_T35 x11 x13).f1))) x11 x12 (wrap64 (x13 + 1)) x124000 x124001 x124002 x124003)))))) else (none)) else (none)) else (if x3 = x124001 then (some 0) else (some 14))
def lot_shares.f (k : Nat) (a0_0 : Int) (a0_1 : Int) (a0_2 : Int) (l0_3 : List (S35)) : Option (Int) := if (l0_3.length : Int) > 32 then (some 12) else (lot_shares.l0 k 0 l0_3 (l0_3.length : Int) 0 a0_0 a0_1 a0_2 l0_3)
set_option maxHeartbeats 8000000 in
set_option maxRecDepth 100000 in
theorem lot_shares.calls (k : Nat) (a0_0 : Int) (a0_1 : Int) (a0_2 : Int) (A0_3 : Option Addr) (c0_3 : Nat) (l0_3 : List (S35)) (r : Int) (w : World) (hr0_3 : Kd.C k35 w A0_3 l0_3.length l0_3) (hc0_3 : l0_3.length ≤ c0_3) (h : lot_shares.f k a0_0 a0_1 a0_2 l0_3 = some r) :
  Calls Tryd.prog 58 #[.agg #[.int .i64 a0_0, .int .i64 a0_1, .int .i64 a0_2, .slice A0_3 l0_3.length c0_3]] w fun e w' => e = .returned (.int .i64 r) ∧ Below w.heap.size w w' := by
 have hu33 := Tryd.underlying33; have hu35 := Tryd.underlying35; have HR0_3 := Aside0.mk hr0_3; have HC0_3 := Aside0.mk hc0_3; clear hr0_3 hc0_3; have HB := Aside0.mk (Below.refl w.heap.size w); have H : (if (l0_3.length : Int) > 32 then (some 12) else (lot_shares.l0 k 0 l0_3 (l0_3.length : Int) 0 a0_0 a0_1 a0_2 l0_3)) = some r := h; clear h; by_cases c2 : (l0_3.length : Int) > 32
 ·
  rw [if_pos c2] at H; have c2b0 : decide (32 < (l0_3.length : Int)) = true := decide_eq_true c2; have c2b1 : decide (32 < l0_3.length) = true := decide_eq_true (by omega); clear c2; obtain rfl := Option.some.inj H; go_enter Tryd.func58, Tryd.ntmps58
  go_wp2_with (first | ((with_reducible refine gate_dst (N := 1) rfl ?_); refine box_event ?hg (N := 1) ?hd (cs := #[.int .i64 a0_0, .int .i64 a0_1, .int .i64 a0_2, .slice A0_3 l0_3.length c0_3]) (t := 33) ?hr ?_; (case hd => rfl); (case hg => rfl); (case hr => first | (go_simp; done) | (go_simp; rfl)); intro gb123 hg w3 hbox hb; have n0_ := Aside0.mk (below_step (eG HB.out) hb); have n1_ := Aside0.mk (hbox); have n2_ := Aside0.mk ((by rw [hg]; exact (below_size (eG HB.out)) : w.heap.size ≤ gb123)); have n3_ := Aside0.mk ((by rw [hg]; exact (below_size (eG HB.out)) : w.heap.size ≤ gb123)); clear HB; have HB := n0_; have BK123 := n1_; have GW123 := n2_; have GE123 := n3_; have ig123_ := geI GE123; clear n0_ n1_ n2_ n3_; clear hb hbox hg; have hcz4_0 : w3.cell? ⟨gb123, 0, none⟩ = some (.int .i64 a0_0) := (blk_cell BK123.out 0).trans rfl; have hcz4_1 : w3.cell? ⟨gb123, 1, none⟩ = some (.int .i64 a0_1) := (blk_cell BK123.out 1).trans rfl; have hcz4_2 : w3.cell? ⟨gb123, 2, none⟩ = some (.int .i64 a0_2) := (blk_cell BK123.out 2).trans rfl; have hcz4_3 : w3.cell? ⟨gb123, 3, none⟩ = some (.slice A0_3 l0_3.length c0_3) := (blk_cell BK123.out 3).trans rfl; have hfz4_0 := blk_frozen BK123.out 0; have hfz4_1 := blk_frozen BK123.out 1; have hfz4_2 := blk_frozen BK123.out 2; have hfz4_3 := blk_frozen BK123.out 3))
  repeat (go_quiet (first | ((with_reducible refine gate_dst (N := 1) rfl ?_); refine box_event ?hg (N := 1) ?hd (cs := #[.int .i64 a0_0, .int .i64 a0_1, .int .i64 a0_2, .slice A0_3 l0_3.length c0_3]) (t := 33) ?hr ?_; (case hd => rfl); (case hg => rfl); (case hr => first | (go_simp; done) | (go_simp; rfl)); intro gb123 hg w3 hbox hb; have n0_ := Aside0.mk (below_step (eG HB.out) hb); have n1_ := Aside0.mk (hbox); have n2_ := Aside0.mk ((by rw [hg]; exact (below_size (eG HB.out)) : w.heap.size ≤ gb123)); have n3_ := Aside0.mk ((by rw [hg]; exact (below_size (eG HB.out)) : w.heap.size ≤ gb123)); clear HB; have HB := n0_; have BK123 := n1_; have GW123 := n2_; have GE123 := n3_; have ig123_ := geI GE123; clear n0_ n1_ n2_ n3_; clear hb hbox hg; have hcz4_0 : w3.cell? ⟨gb123, 0, none⟩ = some (.int .i64 a0_0) := (blk_cell BK123.out 0).trans rfl; have hcz4_1 : w3.cell? ⟨gb123, 1, none⟩ = some (.int .i64 a0_1) := (blk_cell BK123.out 1).trans rfl; have hcz4_2 : w3.cell? ⟨gb123, 2, none⟩ = some (.int .i64 a0_2) := (blk_cell BK123.out 2).trans rfl; have hcz4_3 : w3.cell? ⟨gb123, 3, none⟩ = some (.slice A0_3 l0_3.length c0_3) := (blk_cell BK123.out 3).trans rfl; have hfz4_0 := blk_frozen BK123.out 0; have hfz4_1 := blk_frozen BK123.out 1; have hfz4_2 := blk_frozen BK123.out 2; have hfz4_3 := blk_frozen BK123.out 3)); try go_wp2_with (first | ((with_reducible refine gate_dst (N := 1) rfl ?_); refine box_event ?hg (N := 1) ?hd (cs := #[.int .i64 a0_0, .int .i64 a0_1, .int .i64 a0_2, .slice A0_3 l0_3.length c0_3]) (t := 33) ?hr ?_; (case hd => rfl); (case hg => rfl); (case hr => first | (go_simp; done) | (go_simp; rfl)); intro gb123 hg w3 hbox hb; have n0_ := Aside0.mk (below_step (eG HB.out) hb); have n1_ := Aside0.mk (hbox); have n2_ := Aside0.mk ((by rw [hg]; exact (below_size (eG HB.out)) : w.heap.size ≤ gb123)); have n3_ := Aside0.mk ((by rw [hg]; exact (below_size (eG HB.out)) : w.heap.size ≤ gb123)); clear HB; have HB := n0_; have BK123 := n1_; have GW123 := n2_; have GE123 := n3_; have ig123_ := geI GE123; clear n0_ n1_ n2_ n3_; clear hb hbox hg; have hcz4_0 : w3.cell? ⟨gb123, 0, none⟩ = some (.int .i64 a0_0) := (blk_cell BK123.out 0).trans rfl; have hcz4_1 : w3.cell? ⟨gb123, 1, none⟩ = some (.int .i64 a0_1) := (blk_cell BK123.out 1).trans rfl; have hcz4_2 : w3.cell? ⟨gb123, 2, none⟩ = some (.int .i64 a0_2) := (blk_cell BK123.out 2).trans rfl; have hcz4_3 : w3.cell? ⟨gb123, 3, none⟩ = some (.slice A0_3 l0_3.length c0_3) := (blk_cell BK123.out 3).trans rfl; have hfz4_0 := blk_frozen BK123.out 0; have hfz4_1 := blk_frozen BK123.out 1; have hfz4_2 := blk_frozen BK123.out 2; have hfz4_3 := blk_frozen BK123.out 3)))
  go_ret
  exact ⟨by first | rfl | (simp [errW_none, errW_some] <;> rfl) | (simp [*, errW_none, errW_some] <;> rfl), eG HB.out⟩
 ·
  rw [if_neg c2] at H; have c2b0 : decide (32 < (l0_3.length : Int)) = false := decide_eq_false c2; have c2b1 : decide (32 < l0_3.length) = false := decide_eq_false (by omega); clear c2; have H' := Aside0.mk H; clear H; go_enter Tryd.func58, Tryd.ntmps58
  go_wp2_with (first | ((with_reducible refine gate_dst (N := 1) rfl ?_); refine box_event ?hg (N := 1) ?hd (cs := #[.int .i64 a0_0, .int .i64 a0_1, .int .i64 a0_2, .slice A0_3 l0_3.length c0_3]) (t := 33) ?hr ?_; (case hd => rfl); (case hg => rfl); (case hr => first | (go_simp; done) | (go_simp; rfl)); intro gb123 hg w5 hbox hb; have n0_ := Aside0.mk (below_step (eG HB.out) hb); have n1_ := Aside0.mk (hbox); have n2_ := Aside0.mk ((by rw [hg]; exact (below_size (eG HB.out)) : w.heap.size ≤ gb123)); have n3_ := Aside0.mk ((by rw [hg]; exact (below_size (eG HB.out)) : w.heap.size ≤ gb123)); clear HB; have HB := n0_; have BK123 := n1_; have GW123 := n2_; have GE123 := n3_; have ig123_ := geI GE123; clear n0_ n1_ n2_ n3_; clear hb hbox hg; have hcz6_0 : w5.cell? ⟨gb123, 0, none⟩ = some (.int .i64 a0_0) := (blk_cell BK123.out 0).trans rfl; have hcz6_1 : w5.cell? ⟨gb123, 1, none⟩ = some (.int .i64 a0_1) := (blk_cell BK123.out 1).trans rfl; have hcz6_2 : w5.cell? ⟨gb123, 2, none⟩ = some (.int .i64 a0_2) := (blk_cell BK123.out 2).trans rfl; have hcz6_3 : w5.cell? ⟨gb123, 3, none⟩ = some (.slice A0_3 l0_3.length c0_3) := (blk_cell BK123.out 3).trans rfl; have hfz6_0 := blk_frozen BK123.out 0; have hfz6_1 := blk_frozen BK123.out 1; have hfz6_2 := blk_frozen BK123.out 2; have hfz6_3 := blk_frozen BK123.out 3))
  repeat (go_quiet (first | ((with_reducible refine gate_dst (N := 1) rfl ?_); refine box_event ?hg (N := 1) ?hd (cs := #[.int .i64 a0_0, .int .i64 a0_1, .int .i64 a0_2, .slice A0_3 l0_3.length c0_3]) (t := 33) ?hr ?_; (case hd => rfl); (case hg => rfl); (case hr => first | (go_simp; done) | (go_simp; rfl)); intro gb123 hg w5 hbox hb; have n0_ := Aside0.mk (below_step (eG HB.out) hb); have n1_ := Aside0.mk (hbox); have n2_ := Aside0.mk ((by rw [hg]; exact (below_size (eG HB.out)) : w.heap.size ≤ gb123)); have n3_ := Aside0.mk ((by rw [hg]; exact (below_size (eG HB.out)) : w.heap.size ≤ gb123)); clear HB; have HB := n0_; have BK123 := n1_; have GW123 := n2_; have GE123 := n3_; have ig123_ := geI GE123; clear n0_ n1_ n2_ n3_; clear hb hbox hg; have hcz6_0 : w5.cell? ⟨gb123, 0, none⟩ = some (.int .i64 a0_0) := (blk_cell BK123.out 0).trans rfl; have hcz6_1 : w5.cell? ⟨gb123, 1, none⟩ = some (.int .i64 a0_1) := (blk_cell BK123.out 1).trans rfl; have hcz6_2 : w5.cell? ⟨gb123, 2, none⟩ = some (.int .i64 a0_2) := (blk_cell BK123.out 2).trans rfl; have hcz6_3 : w5.cell? ⟨gb123, 3, none⟩ = some (.slice A0_3 l0_3.length c0_3) := (blk_cell BK123.out 3).trans rfl; have hfz6_0 := blk_frozen BK123.out 0; have hfz6_1 := blk_frozen BK123.out 1; have hfz6_2 := blk_frozen BK123.out 2; have hfz6_3 := blk_frozen BK123.out 3)); try go_wp2_with (first | ((with_reducible refine gate_dst (N := 1) rfl ?_); refine box_event ?hg (N := 1) ?hd (cs := #[.int .i64 a0_0, .int .i64 a0_1, .int .i64 a0_2, .slice A0_3 l0_3.length c0_3]) (t := 33) ?hr ?_; (case hd => rfl); (case hg => rfl); (case hr => first | (go_simp; done) | (go_simp; rfl)); intro gb123 hg w5 hbox hb; have n0_ := Aside0.mk (below_step (eG HB.out) hb); have n1_ := Aside0.mk (hbox); have n2_ := Aside0.mk ((by rw [hg]; exact (below_size (eG HB.out)) : w.heap.size ≤ gb123)); have n3_ := Aside0.mk ((by rw [hg]; exact (below_size (eG HB.out)) : w.heap.size ≤ gb123)); clear HB; have HB := n0_; have BK123 := n1_; have GW123 := n2_; have GE123 := n3_; have ig123_ := geI GE123; clear n0_ n1_ n2_ n3_; clear hb hbox hg; have hcz6_0 : w5.cell? ⟨gb123, 0, none⟩ = some (.int .i64 a0_0) := (blk_cell BK123.out 0).trans rfl; have hcz6_1 : w5.cell? ⟨gb123, 1, none⟩ = some (.int .i64 a0_1) := (blk_cell BK123.out 1).trans rfl; have hcz6_2 : w5.cell? ⟨gb123, 2, none⟩ = some (.int .i64 a0_2) := (blk_cell BK123.out 2).trans rfl; have hcz6_3 : w5.cell? ⟨gb123, 3, none⟩ = some (.slice A0_3 l0_3.length c0_3) := (blk_cell BK123.out 3).trans rfl; have hfz6_0 := blk_frozen BK123.out 0; have hfz6_1 := blk_frozen BK123.out 1; have hfz6_2 := blk_frozen BK123.out 2; have hfz6_3 := blk_frozen BK123.out 3)))
  go_loopg [3, 13] k (fun kq v3 v13 w' => ∃ (x3_1 : Int) (x13_1 : Int), v3 = .int .i64 x3_1 ∧ v13 = .int .i64 x13_1 ∧ Aside0 (lot_shares.l0 kq x3_1 l0_3 (l0_3.length : Int) x13_1 a0_0 a0_1 a0_2 l0_3 = some r) ∧ Aside0 (kq ≤ k) ∧ Aside0 (w'.heap[gb123]? = some (.cells #[.int .i64 a0_0, .int .i64 a0_1, .int .i64 a0_2, (.slice A0_3 l0_3.length c0_3)] 33 (0, 0))) ∧ Aside0 (Below w.heap.size w w'))
  case atStart => exact ⟨(0), (0), (by first | rfl | (simp; done) | (simp [*]; done)), (by first | rfl | (simp; done) | (simp [*]; done)), H', ⟨Nat.le_refl _⟩, ⟨by (with_reducible repeat first | apply bN | apply bD | apply bA); exact BK123.out⟩, ⟨eG HB.out⟩⟩
  case round =>
   clear H'; repeat first | clear c2 | clear c2b0 | clear c2b1 | clear p2 | clear c5 | clear hcz4_0 | clear hcz4_1 | clear hcz4_2 | clear hcz4_3 | clear hcz6_0 | clear hcz6_1 | clear hcz6_2 | clear hcz6_3 | clear hfz4_0 | clear hfz4_1 | clear hfz4_2 | clear hfz4_3 | clear hfz6_0 | clear hfz6_1 | clear hfz6_2 | clear hfz6_3
   obtain ⟨x3_1, x13_1, rfl, rfl, HA, HK1, BK123, HB⟩ := hrel
   cases gk with
   | zero => exact absurd HA.out (by simp [lot_shares.l0])
   | succ k1 =>
    have H := HA.out; clear HA; simp only [lot_shares.l0] at H; by_cases c7 : x13_1 < (l0_3.length : Int)
    ·
     rw [if_pos c7] at H; have c7b0 : decide (x13_1 < (l0_3.length : Int)) = true := decide_eq_true c7; clear c7; by_cases c8 : 0 ≤ x13_1
     ·
      rw [if_pos c8] at H; have c8b0 : decide (0 ≤ x13_1) = true := decide_eq_true c8; clear c8; by_cases c9 : x13_1 < (l0_3.length : Int)
      ·
       rw [if_pos c9] at H; have c9b0 : decide (x13_1 < (l0_3.length : Int)) = true := decide_eq_true c9; clear c9; by_cases c10 : ((rd_T35 l0_3 x13_1).f0) < 1
       ·
        rw [if_pos c10] at H; have c10b0 : decide (((rd_T35 l0_3 x13_1).f0) < 1) = true := decide_eq_true c10; clear c10; obtain rfl := Option.some.inj H; have p124 : 0 ≤ (x13_1 : Int) := of_decide_eq_true (by first | (with_reducible assumption) | assumption); have q124 : x13_1 < (l0_3.length : Int) := of_decide_eq_true (by first | (with_reducible assumption) | assumption); obtain ⟨ad124, e124, hx124_0, hx124_1⟩ := at_T35 HR0_3.out x13_1 p124 q124; cases e124; replace hx124_0 := (HB.out.cell (World.block_lt_of_cell? w _ hx124_0)).trans hx124_0; replace hx124_1 := (HB.out.cell (World.block_lt_of_cell? w _ hx124_1)).trans hx124_1; replace p124 := eq_true p124; replace q124 := eq_true q124; go_wp2_with (first | ((with_reducible refine gate_dst (N := 5) rfl ?_); refine box_event ?hg (N := 5) ?hd (cs := #[.int .i64 0, .int .i64 0]) (t := 35) ?hr ?_; (case hd => rfl); (case hg => rfl); (case hr => first | (go_simp; done) | (go_simp; rfl)); intro gb125 hg w11 hbox hb; have n0_ := Aside0.mk (blk_below (bG BK123.out) hb); have n1_ := Aside0.mk (below_step (eG HB.out) hb); have n2_ := Aside0.mk (hbox); have n3_ := Aside0.mk ((by rw [hg]; exact (below_size (eG HB.out)) : w.heap.size ≤ gb125)); have n4_ := Aside0.mk ((by rw [hg]; exact (below_size (eG HB.out)) : w.heap.size ≤ gb125)); have n5_ := Aside0.mk ((by rw [hg]; exact Nat.ne_of_lt (blk_lt (bG BK123.out)) : gb123 ≠ gb125)); have n6_ := Aside0.mk ((by rw [hg]; exact Nat.ne_of_gt (blk_lt (bG BK123.out)) : gb125 ≠ gb123)); clear BK123; clear HB; have BK123 := n0_; have HB := n1_; have BK125 := n2_; have GW125 := n3_; have GE125 := n4_; have ig125_ := geI GE125; have NB123_125 := n5_; have NB125_123 := n6_; clear n0_ n1_ n2_ n3_ n4_ n5_ n6_; clear hb hbox hg; have hnb12 := NB125_123.out; have hnc12 := NB123_125.out; have hcz13_0 : w11.cell? ⟨gb125, 0, none⟩ = some (.int .i64 0) := (blk_cell BK125.out 0).trans rfl; have hcz13_1 : w11.cell? ⟨gb125, 1, none⟩ = some (.int .i64 0) := (blk_cell BK125.out 1).trans rfl; have hfz13_0 := blk_frozen BK125.out 0; have hfz13_1 := blk_frozen BK125.out 1))
        repeat (go_quiet (first | ((with_reducible refine gate_dst (N := 5) rfl ?_); refine box_event ?hg (N := 5) ?hd (cs := #[.int .i64 0, .int .i64 0]) (t := 35) ?hr ?_; (case hd => rfl); (case hg => rfl); (case hr => first | (go_simp; done) | (go_simp; rfl)); intro gb125 hg w11 hbox hb; have n0_ := Aside0.mk (blk_below (bG BK123.out) hb); have n1_ := Aside0.mk (below_step (eG HB.out) hb); have n2_ := Aside0.mk (hbox); have n3_ := Aside0.mk ((by rw [hg]; exact (below_size (eG HB.out)) : w.heap.size ≤ gb125)); have n4_ := Aside0.mk ((by rw [hg]; exact (below_size (eG HB.out)) : w.heap.size ≤ gb125)); have n5_ := Aside0.mk ((by rw [hg]; exact Nat.ne_of_lt (blk_lt (bG BK123.out)) : gb123 ≠ gb125)); have n6_ := Aside0.mk ((by rw [hg]; exact Nat.ne_of_gt (blk_lt (bG BK123.out)) : gb125 ≠ gb123)); clear BK123; clear HB; have BK123 := n0_; have HB := n1_; have BK125 := n2_; have GW125 := n3_; have GE125 := n4_; have ig125_ := geI GE125; have NB123_125 := n5_; have NB125_123 := n6_; clear n0_ n1_ n2_ n3_ n4_ n5_ n6_; clear hb hbox hg; have hnb12 := NB125_123.out; have hnc12 := NB123_125.out; have hcz13_0 : w11.cell? ⟨gb125, 0, none⟩ = some (.int .i64 0) := (blk_cell BK125.out 0).trans rfl; have hcz13_1 : w11.cell? ⟨gb125, 1, none⟩ = some (.int .i64 0) := (blk_cell BK125.out 1).trans rfl; have hfz13_0 := blk_frozen BK125.out 0; have hfz13_1 := blk_frozen BK125.out 1)); try go_wp2_with (first | ((with_reducible refine gate_dst (N := 5) rfl ?_); refine box_event ?hg (N := 5) ?hd (cs := #[.int .i64 0, .int .i64 0]) (t := 35) ?hr ?_; (case hd => rfl); (case hg => rfl); (case hr => first | (go_simp; done) | (go_simp; rfl)); intro gb125 hg w11 hbox hb; have n0_ := Aside0.mk (blk_below (bG BK123.out) hb); have n1_ := Aside0.mk (below_step (eG HB.out) hb); have n2_ := Aside0.mk (hbox); have n3_ := Aside0.mk ((by rw [hg]; exact (below_size (eG HB.out)) : w.heap.size ≤ gb125)); have n4_ := Aside0.mk ((by rw [hg]; exact (below_size (eG HB.out)) : w.heap.size ≤ gb125)); have n5_ := Aside0.mk ((by rw [hg]; exact Nat.ne_of_lt (blk_lt (bG BK123.out)) : gb123 ≠ gb125)); have n6_ := Aside0.mk ((by rw [hg]; exact Nat.ne_of_gt (blk_lt (bG BK123.out)) : gb125 ≠ gb123)); clear BK123; clear HB; have BK123 := n0_; have HB := n1_; have BK125 := n2_; have GW125 := n3_; have GE125 := n4_; have ig125_ := geI GE125; have NB123_125 := n5_; have NB125_123 := n6_; clear n0_ n1_ n2_ n3_ n4_ n5_ n6_; clear hb hbox hg; have hnb12 := NB125_123.out; have hnc12 := NB123_125.out; have hcz13_0 : w11.cell? ⟨gb125, 0, none⟩ = some (.int .i64 0) := (blk_cell BK125.out 0).trans rfl; have hcz13_1 : w11.cell? ⟨gb125, 1, none⟩ = some (.int .i64 0) := (blk_cell BK125.out 1).trans rfl; have hfz13_0 := blk_frozen BK125.out 0; have hfz13_1 := blk_frozen BK125.out 1)))
        go_ret
        exact ⟨by first | rfl | (simp [errW_none, errW_some] <;> rfl) | (simp [*, errW_none, errW_some] <;> rfl), eG HB.out⟩
       ·
        rw [if_neg c10] at H; have c10b0 : decide (((rd_T35 l0_3 x13_1).f0) < 1) = false := decide_eq_false c10; clear c10; by_cases c14 : ((rd_T35 l0_3 x13_1).f0) > 1073741824
        ·
         rw [if_pos c14] at H; have c14b0 : decide (1073741824 < ((rd_T35 l0_3 x13_1).f0)) = true := decide_eq_true c14; clear c14; obtain rfl := Option.some.inj H; have p124 : 0 ≤ (x13_1 : Int) := of_decide_eq_true (by first | (with_reducible assumption) | assumption); have q124 : x13_1 < (l0_3.length : Int) := of_decide_eq_true (by first | (with_reducible assumption) | assumption); obtain ⟨ad124, e124, hx124_0, hx124_1⟩ := at_T35 HR0_3.out x13_1 p124 q124; cases e124; replace hx124_0 := (HB.out.cell (World.block_lt_of_cell? w _ hx124_0)).trans hx124_0; replace hx124_1 := (HB.out.cell (World.block_lt_of_cell? w _ hx124_1)).trans hx124_1; replace p124 := eq_true p124; replace q124 := eq_true q124; go_wp2_with (first | ((with_reducible refine gate_dst (N := 5) rfl ?_); refine box_event ?hg (N := 5) ?hd (cs := #[.int .i64 0, .int .i64 0]) (t := 35) ?hr ?_; (case hd => rfl); (case hg => rfl); (case hr => first | (go_simp; done) | (go_simp; rfl)); intro gb125 hg w15 hbox hb; have n0_ := Aside0.mk (blk_below (bG BK123.out) hb); have n1_ := Aside0.mk (below_step (eG HB.out) hb); have n2_ := Aside0.mk (hbox); have n3_ := Aside0.mk ((by rw [hg]; exact (below_size (eG HB.out)) : w.heap.size ≤ gb125)); have n4_ := Aside0.mk ((by rw [hg]; exact (below_size (eG HB.out)) : w.heap.size ≤ gb125)); have n5_ := Aside0.mk ((by rw [hg]; exact Nat.ne_of_lt (blk_lt (bG BK123.out)) : gb123 ≠ gb125)); have n6_ := Aside0.mk ((by rw [hg]; exact Nat.ne_of_gt (blk_lt (bG BK123.out)) : gb125 ≠ gb123)); clear BK123; clear HB; have BK123 := n0_; have HB := n1_; have BK125 := n2_; have GW125 := n3_; have GE125 := n4_; have ig125_ := geI GE125; have NB123_125 := n5_; have NB125_123 := n6_; clear n0_ n1_ n2_ n3_ n4_ n5_ n6_; clear hb hbox hg; have hnb16 := NB125_123.out; have hnc16 := NB123_125.out; have hcz17_0 : w15.cell? ⟨gb125, 0, none⟩ = some (.int .i64 0) := (blk_cell BK125.out 0).trans rfl; have hcz17_1 : w15.cell? ⟨gb125, 1, none⟩ = some (.int .i64 0) := (blk_cell BK125.out 1).trans rfl; have hfz17_0 := blk_frozen BK125.out 0; have hfz17_1 := blk_frozen BK125.out 1))
         repeat (go_quiet (first | ((with_reducible refine gate_dst (N := 5) rfl ?_); refine box_event ?hg (N := 5) ?hd (cs := #[.int .i64 0, .int .i64 0]) (t := 35) ?hr ?_; (case hd => rfl); (case hg => rfl); (case hr => first | (go_simp; done) | (go_simp; rfl)); intro gb125 hg w15 hbox hb; have n0_ := Aside0.mk (blk_below (bG BK123.out) hb); have n1_ := Aside0.mk (below_step (eG HB.out) hb); have n2_ := Aside0.mk (hbox); have n3_ := Aside0.mk ((by rw [hg]; exact (below_size (eG HB.out)) : w.heap.size ≤ gb125)); have n4_ := Aside0.mk ((by rw [hg]; exact (below_size (eG HB.out)) : w.heap.size ≤ gb125)); have n5_ := Aside0.mk ((by rw [hg]; exact Nat.ne_of_lt (blk_lt (bG BK123.out)) : gb123 ≠ gb125)); have n6_ := Aside0.mk ((by rw [hg]; exact Nat.ne_of_gt (blk_lt (bG BK123.out)) : gb125 ≠ gb123)); clear BK123; clear HB; have BK123 := n0_; have HB := n1_; have BK125 := n2_; have GW125 := n3_; have GE125 := n4_; have ig125_ := geI GE125; have NB123_125 := n5_; have NB125_123 := n6_; clear n0_ n1_ n2_ n3_ n4_ n5_ n6_; clear hb hbox hg; have hnb16 := NB125_123.out; have hnc16 := NB123_125.out; have hcz17_0 : w15.cell? ⟨gb125, 0, none⟩ = some (.int .i64 0) := (blk_cell BK125.out 0).trans rfl; have hcz17_1 : w15.cell? ⟨gb125, 1, none⟩ = some (.int .i64 0) := (blk_cell BK125.out 1).trans rfl; have hfz17_0 := blk_frozen BK125.out 0; have hfz17_1 := blk_frozen BK125.out 1)); try go_wp2_with (first | ((with_reducible refine gate_dst (N := 5) rfl ?_); refine box_event ?hg (N := 5) ?hd (cs := #[.int .i64 0, .int .i64 0]) (t := 35) ?hr ?_; (case hd => rfl); (case hg => rfl); (case hr => first | (go_simp; done) | (go_simp; rfl)); intro gb125 hg w15 hbox hb; have n0_ := Aside0.mk (blk_below (bG BK123.out) hb); have n1_ := Aside0.mk (below_step (eG HB.out) hb); have n2_ := Aside0.mk (hbox); have n3_ := Aside0.mk ((by rw [hg]; exact (below_size (eG HB.out)) : w.heap.size ≤ gb125)); have n4_ := Aside0.mk ((by rw [hg]; exact (below_size (eG HB.out)) : w.heap.size ≤ gb125)); have n5_ := Aside0.mk ((by rw [hg]; exact Nat.ne_of_lt (blk_lt (bG BK123.out)) : gb123 ≠ gb125)); have n6_ := Aside0.mk ((by rw [hg]; exact Nat.ne_of_gt (blk_lt (bG BK123.out)) : gb125 ≠ gb123)); clear BK123; clear HB; have BK123 := n0_; have HB := n1_; have BK125 := n2_; have GW125 := n3_; have GE125 := n4_; have ig125_ := geI GE125; have NB123_125 := n5_; have NB125_123 := n6_; clear n0_ n1_ n2_ n3_ n4_ n5_ n6_; clear hb hbox hg; have hnb16 := NB125_123.out; have hnc16 := NB123_125.out; have hcz17_0 : w15.cell? ⟨gb125, 0, none⟩ = some (.int .i64 0) := (blk_cell BK125.out 0).trans rfl; have hcz17_1 : w15.cell? ⟨gb125, 1, none⟩ = some (.int .i64 0) := (blk_cell BK125.out 1).trans rfl; have hfz17_0 := blk_frozen BK125.out 0; have hfz17_1 := blk_frozen BK125.out 1)))
         go_ret
         exact ⟨by first | rfl | (simp [errW_none, errW_some] <;> rfl) | (simp [*, errW_none, errW_some] <;> rfl), eG HB.out⟩
        ·
         rw [if_neg c14] at H; have c14b0 : decide (1073741824 < ((rd_T35 l0_3 x13_1).f0)) = false := decide_eq_false c14; clear c14; by_cases c18 : ((rd_T35 l0_3 x13_1).f1) < 1
         ·
          rw [if_pos c18] at H; have c18b0 : decide (((rd_T35 l0_3 x13_1).f1) < 1) = true := decide_eq_true c18; clear c18; obtain rfl := Option.some.inj H; have p124 : 0 ≤ (x13_1 : Int) := of_decide_eq_true (by first | (with_reducible assumption) | assumption); have q124 : x13_1 < (l0_3.length : Int) := of_decide_eq_true (by first | (with_reducible assumption) | assumption); obtain ⟨ad124, e124, hx124_0, hx124_1⟩ := at_T35 HR0_3.out x13_1 p124 q124; cases e124; replace hx124_0 := (HB.out.cell (World.block_lt_of_cell? w _ hx124_0)).trans hx124_0; replace hx124_1 := (HB.out.cell (World.block_lt_of_cell? w _ hx124_1)).trans hx124_1; replace p124 := eq_true p124; replace q124 := eq_true q124; go_wp2_with (first | ((with_reducible refine gate_dst (N := 5) rfl ?_); refine box_event ?hg (N := 5) ?hd (cs := #[.int .i64 0, .int .i64 0]) (t := 35) ?hr ?_; (case hd => rfl); (case hg => rfl); (case hr => first | (go_simp; done) | (go_simp; rfl)); intro gb125 hg w19 hbox hb; have n0_ := Aside0.mk (blk_below (bG BK123.out) hb); have n1_ := Aside0.mk (below_step (eG HB.out) hb); have n2_ := Aside0.mk (hbox); have n3_ := Aside0.mk ((by rw [hg]; exact (below_size (eG HB.out)) : w.heap.size ≤ gb125)); have n4_ := Aside0.mk ((by rw [hg]; exact (below_size (eG HB.out)) : w.heap.size ≤ gb125)); have n5_ := Aside0.mk ((by rw [hg]; exact Nat.ne_of_lt (blk_lt (bG BK123.out)) : gb123 ≠ gb125)); have n6_ := Aside0.mk ((by rw [hg]; exact Nat.ne_of_gt (blk_lt (bG BK123.out)) : gb125 ≠ gb123)); clear BK123; clear HB; have BK123 := n0_; have HB := n1_; have BK125 := n2_; have GW125 := n3_; have GE125 := n4_; have ig125_ := geI GE125; have NB123_125 := n5_; have NB125_123 := n6_; clear n0_ n1_ n2_ n3_ n4_ n5_ n6_; clear hb hbox hg; have hnb20 := NB125_123.out; have hnc20 := NB123_125.out; have hcz21_0 : w19.cell? ⟨gb125, 0, none⟩ = some (.int .i64 0) := (blk_cell BK125.out 0).trans rfl; have hcz21_1 : w19.cell? ⟨gb125, 1, none⟩ = some (.int .i64 0) := (blk_cell BK125.out 1).trans rfl; have hfz21_0 := blk_frozen BK125.out 0; have hfz21_1 := blk_frozen BK125.out 1))
          repeat (go_quiet (first | ((with_reducible refine gate_dst (N := 5) rfl ?_); refine box_event ?hg (N := 5) ?hd (cs := #[.int .i64 0, .int .i64 0]) (t := 35) ?hr ?_; (case hd => rfl); (case hg => rfl); (case hr => first | (go_simp; done) | (go_simp; rfl)); intro gb125 hg w19 hbox hb; have n0_ := Aside0.mk (blk_below (bG BK123.out) hb); have n1_ := Aside0.mk (below_step (eG HB.out) hb); have n2_ := Aside0.mk (hbox); have n3_ := Aside0.mk ((by rw [hg]; exact (below_size (eG HB.out)) : w.heap.size ≤ gb125)); have n4_ := Aside0.mk ((by rw [hg]; exact (below_size (eG HB.out)) : w.heap.size ≤ gb125)); have n5_ := Aside0.mk ((by rw [hg]; exact Nat.ne_of_lt (blk_lt (bG BK123.out)) : gb123 ≠ gb125)); have n6_ := Aside0.mk ((by rw [hg]; exact Nat.ne_of_gt (blk_lt (bG BK123.out)) : gb125 ≠ gb123)); clear BK123; clear HB; have BK123 := n0_; have HB := n1_; have BK125 := n2_; have GW125 := n3_; have GE125 := n4_; have ig125_ := geI GE125; have NB123_125 := n5_; have NB125_123 := n6_; clear n0_ n1_ n2_ n3_ n4_ n5_ n6_; clear hb hbox hg; have hnb20 := NB125_123.out; have hnc20 := NB123_125.out; have hcz21_0 : w19.cell? ⟨gb125, 0, none⟩ = some (.int .i64 0) := (blk_cell BK125.out 0).trans rfl; have hcz21_1 : w19.cell? ⟨gb125, 1, none⟩ = some (.int .i64 0) := (blk_cell BK125.out 1).trans rfl; have hfz21_0 := blk_frozen BK125.out 0; have hfz21_1 := blk_frozen BK125.out 1)); try go_wp2_with (first | ((with_reducible refine gate_dst (N := 5) rfl ?_); refine box_event ?hg (N := 5) ?hd (cs := #[.int .i64 0, .int .i64 0]) (t := 35) ?hr ?_; (case hd => rfl); (case hg => rfl); (case hr => first | (go_simp; done) | (go_simp; rfl)); intro gb125 hg w19 hbox hb; have n0_ := Aside0.mk (blk_below (bG BK123.out) hb); have n1_ := Aside0.mk (below_step (eG HB.out) hb); have n2_ := Aside0.mk (hbox); have n3_ := Aside0.mk ((by rw [hg]; exact (below_size (eG HB.out)) : w.heap.size ≤ gb125)); have n4_ := Aside0.mk ((by rw [hg]; exact (below_size (eG HB.out)) : w.heap.size ≤ gb125)); have n5_ := Aside0.mk ((by rw [hg]; exact Nat.ne_of_lt (blk_lt (bG BK123.out)) : gb123 ≠ gb125)); have n6_ := Aside0.mk ((by rw [hg]; exact Nat.ne_of_gt (blk_lt (bG BK123.out)) : gb125 ≠ gb123)); clear BK123; clear HB; have BK123 := n0_; have HB := n1_; have BK125 := n2_; have GW125 := n3_; have GE125 := n4_; have ig125_ := geI GE125; have NB123_125 := n5_; have NB125_123 := n6_; clear n0_ n1_ n2_ n3_ n4_ n5_ n6_; clear hb hbox hg; have hnb20 := NB125_123.out; have hnc20 := NB123_125.out; have hcz21_0 : w19.cell? ⟨gb125, 0, none⟩ = some (.int .i64 0) := (blk_cell BK125.out 0).trans rfl; have hcz21_1 : w19.cell? ⟨gb125, 1, none⟩ = some (.int .i64 0) := (blk_cell BK125.out 1).trans rfl; have hfz21_0 := blk_frozen BK125.out 0; have hfz21_1 := blk_frozen BK125.out 1)))
          go_ret
          exact ⟨by first | rfl | (simp [errW_none, errW_some] <;> rfl) | (simp [*, errW_none, errW_some] <;> rfl), eG HB.out⟩
         ·
          rw [if_neg c18] at H; have c18b0 : decide (((rd_T35 l0_3 x13_1).f1) < 1) = false := decide_eq_false c18; clear c18; by_cases c22 : ((rd_T35 l0_3 x13_1).f1) > 10737418240000
          ·
           rw [if_pos c22] at H; have c22b0 : decide (10737418240000 < ((rd_T35 l0_3 x13_1).f1)) = true := decide_eq_true c22; clear c22; obtain rfl := Option.some.inj H; have p124 : 0 ≤ (x13_1 : Int) := of_decide_eq_true (by first | (with_reducible assumption) | assumption); have q124 : x13_1 < (l0_3.length : Int) := of_decide_eq_true (by first | (with_reducible assumption) | assumption); obtain ⟨ad124, e124, hx124_0, hx124_1⟩ := at_T35 HR0_3.out x13_1 p124 q124; cases e124; replace hx124_0 := (HB.out.cell (World.block_lt_of_cell? w _ hx124_0)).trans hx124_0; replace hx124_1 := (HB.out.cell (World.block_lt_of_cell? w _ hx124_1)).trans hx124_1; replace p124 := eq_true p124; replace q124 := eq_true q124; go_wp2_with (first | ((with_reducible refine gate_dst (N := 5) rfl ?_); refine box_event ?hg (N := 5) ?hd (cs := #[.int .i64 0, .int .i64 0]) (t := 35) ?hr ?_; (case hd => rfl); (case hg => rfl); (case hr => first | (go_simp; done) | (go_simp; rfl)); intro gb125 hg w23 hbox hb; have n0_ := Aside0.mk (blk_below (bG BK123.out) hb); have n1_ := Aside0.mk (below_step (eG HB.out) hb); have n2_ := Aside0.mk (hbox); have n3_ := Aside0.mk ((by rw [hg]; exact (below_size (eG HB.out)) : w.heap.size ≤ gb125)); have n4_ := Aside0.mk ((by rw [hg]; exact (below_size (eG HB.out)) : w.heap.size ≤ gb125)); have n5_ := Aside0.mk ((by rw [hg]; exact Nat.ne_of_lt (blk_lt (bG BK123.out)) : gb123 ≠ gb125)); have n6_ := Aside0.mk ((by rw [hg]; exact Nat.ne_of_gt (blk_lt (bG BK123.out)) : gb125 ≠ gb123)); clear BK123; clear HB; have BK123 := n0_; have HB := n1_; have BK125 := n2_; have GW125 := n3_; have GE125 := n4_; have ig125_ := geI GE125; have NB123_125 := n5_; have NB125_123 := n6_; clear n0_ n1_ n2_ n3_ n4_ n5_ n6_; clear hb hbox hg; have hnb24 := NB125_123.out; have hnc24 := NB123_125.out; have hcz25_0 : w23.cell? ⟨gb125, 0, none⟩ = some (.int .i64 0) := (blk_cell BK125.out 0).trans rfl; have hcz25_1 : w23.cell? ⟨gb125, 1, none⟩ = some (.int .i64 0) := (blk_cell BK125.out 1).trans rfl; have hfz25_0 := blk_frozen BK125.out 0; have hfz25_1 := blk_frozen BK125.out 1))
           repeat (go_quiet (first | ((with_reducible refine gate_dst (N := 5) rfl ?_); refine box_event ?hg (N := 5) ?hd (cs := #[.int .i64 0, .int .i64 0]) (t := 35) ?hr ?_; (case hd => rfl); (case hg => rfl); (case hr => first | (go_simp; done) | (go_simp; rfl)); intro gb125 hg w23 hbox hb; have n0_ := Aside0.mk (blk_below (bG BK123.out) hb); have n1_ := Aside0.mk (below_step (eG HB.out) hb); have n2_ := Aside0.mk (hbox); have n3_ := Aside0.mk ((by rw [hg]; exact (below_size (eG HB.out)) : w.heap.size ≤ gb125)); have n4_ := Aside0.mk ((by rw [hg]; exact (below_size (eG HB.out)) : w.heap.size ≤ gb125)); have n5_ := Aside0.mk ((by rw [hg]; exact Nat.ne_of_lt (blk_lt (bG BK123.out)) : gb123 ≠ gb125)); have n6_ := Aside0.mk ((by rw [hg]; exact Nat.ne_of_gt (blk_lt (bG BK123.out)) : gb125 ≠ gb123)); clear BK123; clear HB; have BK123 := n0_; have HB := n1_; have BK125 := n2_; have GW125 := n3_; have GE125 := n4_; have ig125_ := geI GE125; have NB123_125 := n5_; have NB125_123 := n6_; clear n0_ n1_ n2_ n3_ n4_ n5_ n6_; clear hb hbox hg; have hnb24 := NB125_123.out; have hnc24 := NB123_125.out; have hcz25_0 : w23.cell? ⟨gb125, 0, none⟩ = some (.int .i64 0) := (blk_cell BK125.out 0).trans rfl; have hcz25_1 : w23.cell? ⟨gb125, 1, none⟩ = some (.int .i64 0) := (blk_cell BK125.out 1).trans rfl; have hfz25_0 := blk_frozen BK125.out 0; have hfz25_1 := blk_frozen BK125.out 1)); try go_wp2_with (first | ((with_reducible refine gate_dst (N := 5) rfl ?_); refine box_event ?hg (N := 5) ?hd (cs := #[.int .i64 0, .int .i64 0]) (t := 35) ?hr ?_; (case hd => rfl); (case hg => rfl); (case hr => first | (go_simp; done) | (go_simp; rfl)); intro gb125 hg w23 hbox hb; have n0_ := Aside0.mk (blk_below (bG BK123.out) hb); have n1_ := Aside0.mk (below_step (eG HB.out) hb); have n2_ := Aside0.mk (hbox); have n3_ := Aside0.mk ((by rw [hg]; exact (below_size (eG HB.out)) : w.heap.size ≤ gb125)); have n4_ := Aside0.mk ((by rw [hg]; exact (below_size (eG HB.out)) : w.heap.size ≤ gb125)); have n5_ := Aside0.mk ((by rw [hg]; exact Nat.ne_of_lt (blk_lt (bG BK123.out)) : gb123 ≠ gb125)); have n6_ := Aside0.mk ((by rw [hg]; exact Nat.ne_of_gt (blk_lt (bG BK123.out)) : gb125 ≠ gb123)); clear BK123; clear HB; have BK123 := n0_; have HB := n1_; have BK125 := n2_; have GW125 := n3_; have GE125 := n4_; have ig125_ := geI GE125; have NB123_125 := n5_; have NB125_123 := n6_; clear n0_ n1_ n2_ n3_ n4_ n5_ n6_; clear hb hbox hg; have hnb24 := NB125_123.out; have hnc24 := NB123_125.out; have hcz25_0 : w23.cell? ⟨gb125, 0, none⟩ = some (.int .i64 0) := (blk_cell BK125.out 0).trans rfl; have hcz25_1 : w23.cell? ⟨gb125, 1, none⟩ = some (.int .i64 0) := (blk_cell BK125.out 1).trans rfl; have hfz25_0 := blk_frozen BK125.out 0; have hfz25_1 := blk_frozen BK125.out 1)))
           go_ret
           exact ⟨by first | rfl | (simp [errW_none, errW_some] <;> rfl) | (simp [*, errW_none, errW_some] <;> rfl), eG HB.out⟩
          ·
           rw [if_neg c22] at H; have c22b0 : decide (10737418240000 < ((rd_T35 l0_3 x13_1).f1)) = false := decide_eq_false c22; clear c22; by_cases c26 : x13_1 > 0
           ·
            rw [if_pos c26] at H; have c26b0 : decide (0 < x13_1) = true := decide_eq_true c26; clear c26; obtain ⟨ji27, hji27⟩ : ∃ j_ : Int, (wrap64 (x13_1 - 1)) = j_ := ⟨_, rfl⟩; replace H : (if 0 ≤ (ji27) then (if (ji27) < (l0_3.length : Int) then (if ((rd_T35 l0_3 (ji27)).f0) ≥ ((rd_T35 l0_3 x13_1).f0) then (some 10) else (lot_shares.l0 k1 (wrap64 (x3_1 + ((rd_T35 l0_3 x13_1).f1))) l0_3 (l0_3.length : Int) (wrap64 (x13_1 + 1)) a0_0 a0_1 a0_2 l0_3)) else (none)) else (none)) = some r := by first | (rw [hji27] at H; exact H) | (simp only [hji27] at H ⊢; exact H)
            have hji27w : (IntKind.i64.wrap (x13_1 - 1)) = ji27 := (i64_w _).trans hji27; by_cases c28 : 0 ≤ (ji27)
            ·
             rw [if_pos c28] at H; have c28b0 : decide (0 ≤ (ji27)) = true := decide_eq_true c28; clear c28; by_cases c29 : (ji27) < (l0_3.length : Int)
             ·
              rw [if_pos c29] at H; have c29b0 : decide ((ji27) < (l0_3.length : Int)) = true := decide_eq_true c29; clear c29; by_cases c30 : ((rd_T35 l0_3 (ji27)).f0) ≥ ((rd_T35 l0_3 x13_1).f0)
              ·
               rw [if_pos c30] at H; have c30b0 : decide (((rd_T35 l0_3 x13_1).f0) ≤ ((rd_T35 l0_3 (ji27)).f0)) = true := decide_eq_true c30; clear c30; obtain rfl := Option.some.inj H; have p124 : 0 ≤ (x13_1 : Int) := of_decide_eq_true (by first | (with_reducible assumption) | assumption); have q124 : x13_1 < (l0_3.length : Int) := of_decide_eq_true (by first | (with_reducible assumption) | assumption); obtain ⟨ad124, e124, hx124_0, hx124_1⟩ := at_T35 HR0_3.out x13_1 p124 q124; cases e124; replace hx124_0 := (HB.out.cell (World.block_lt_of_cell? w _ hx124_0)).trans hx124_0; replace hx124_1 := (HB.out.cell (World.block_lt_of_cell? w _ hx124_1)).trans hx124_1; replace p124 := eq_true p124; replace q124 := eq_true q124; go_wp2_with (first | ((with_reducible refine gate_dst (N := 5) rfl ?_); refine box_event ?hg (N := 5) ?hd (cs := #[.int .i64 0, .int .i64 0]) (t := 35) ?hr ?_; (case hd => rfl); (case hg => rfl); (case hr => first | (go_simp; done) | (go_simp; rfl)); intro gb125 hg w31 hbox hb; have n0_ := Aside0.mk (blk_below (bG BK123.out) hb); have n1_ := Aside0.mk (below_step (eG HB.out) hb); have n2_ := Aside0.mk (hbox); have n3_ := Aside0.mk ((by rw [hg]; exact (below_size (eG HB.out)) : w.heap.size ≤ gb125)); have n4_ := Aside0.mk ((by rw [hg]; exact (below_size (eG HB.out)) : w.heap.size ≤ gb125)); have n5_ := Aside0.mk ((by rw [hg]; exact Nat.ne_of_lt (blk_lt (bG BK123.out)) : gb123 ≠ gb125)); have n6_ := Aside0.mk ((by rw [hg]; exact Nat.ne_of_gt (blk_lt (bG BK123.out)) : gb125 ≠ gb123)); clear BK123; clear HB; have BK123 := n0_; have HB := n1_; have BK125 := n2_; have GW125 := n3_; have GE125 := n4_; have ig125_ := geI GE125; have NB123_125 := n5_; have NB125_123 := n6_; clear n0_ n1_ n2_ n3_ n4_ n5_ n6_; clear hb hbox hg; have hnb32 := NB125_123.out; have hnc32 := NB123_125.out; have hcz33_0 : w31.cell? ⟨gb125, 0, none⟩ = some (.int .i64 0) := (blk_cell BK125.out 0).trans rfl; have hcz33_1 : w31.cell? ⟨gb125, 1, none⟩ = some (.int .i64 0) := (blk_cell BK125.out 1).trans rfl; have hfz33_0 := blk_frozen BK125.out 0; have hfz33_1 := blk_frozen BK125.out 1; have hcz34_0 : w31.cell? ⟨gb123, 0, none⟩ = some (.int .i64 a0_0) := (blk_cell BK123.out 0).trans rfl; have hcz34_1 : w31.cell? ⟨gb123, 1, none⟩ = some (.int .i64 a0_1) := (blk_cell BK123.out 1).trans rfl; have hcz34_2 : w31.cell? ⟨gb123, 2, none⟩ = some (.int .i64 a0_2) := (blk_cell BK123.out 2).trans rfl; have hcz34_3 : w31.cell? ⟨gb123, 3, none⟩ = some (.slice (some ad124) l0_3.length c0_3) := (blk_cell BK123.out 3).trans rfl; have hfz34_0 := blk_frozen BK123.out 0; have hfz34_1 := blk_frozen BK123.out 1; have hfz34_2 := blk_frozen BK123.out 2; have hfz34_3 := blk_frozen BK123.out 3; have p126 : 0 ≤ ((ji27) : Int) := of_decide_eq_true (by first | (with_reducible assumption) | assumption); have q126 : (ji27) < (l0_3.length : Int) := of_decide_eq_true (by first | (with_reducible assumption) | assumption); obtain ⟨ad126, e126, hx126_0, hx126_1⟩ := at_T35 HR0_3.out (ji27) p126 q126; obtain rfl : ad124 = ad126 := (by injection e126); have hn126_0 : ad124.block ≠ gb125 := Nat.ne_of_lt (Nat.lt_of_lt_of_le (by have := World.block_lt_of_cell? _ _ hx126_0; first | rwa [add_block] at this | exact this) GW125.out); have hn126_1 : ad124.block ≠ gb125 := Nat.ne_of_lt (Nat.lt_of_lt_of_le (by have := World.block_lt_of_cell? _ _ hx126_0; first | rwa [add_block] at this | exact this) GW125.out); replace hx126_0 := (HB.out.cell (World.block_lt_of_cell? w _ hx126_0)).trans hx126_0; replace hx126_1 := (HB.out.cell (World.block_lt_of_cell? w _ hx126_1)).trans hx126_1; replace hx126_0 := (cell_far (p := ⟨gb125, 0, none⟩) (by first | (rw [add_block]; exact hn126_0) | (show (Addr.add _ _).block ≠ _; rw [add_block]; exact hn126_0) | exact hn126_0) (.int .i64 ((rd_T35 l0_3 x13_1).f0))).trans hx126_0; replace hx126_1 := (cell_far (p := ⟨gb125, 0, none⟩) (by first | (rw [add_block]; exact hn126_0) | (show (Addr.add _ _).block ≠ _; rw [add_block]; exact hn126_0) | exact hn126_0) (.int .i64 ((rd_T35 l0_3 x13_1).f0))).trans hx126_1; replace hx126_0 := (cell_far (p := ⟨gb125, 1, none⟩) (by first | (rw [add_block]; exact hn126_1) | (show (Addr.add _ _).block ≠ _; rw [add_block]; exact hn126_1) | exact hn126_1) (.int .i64 ((rd_T35 l0_3 x13_1).f1))).trans hx126_0; replace hx126_1 := (cell_far (p := ⟨gb125, 1, none⟩) (by first | (rw [add_block]; exact hn126_1) | (show (Addr.add _ _).block ≠ _; rw [add_block]; exact hn126_1) | exact hn126_1) (.int .i64 ((rd_T35 l0_3 x13_1).f1))).trans hx126_1; (try have hy126_0 := fun (n_ : Nat) => (show ((((w31.drewN n_).setCell ⟨gb125, 0, none⟩ (.int .i64 ((rd_T35 l0_3 x13_1).f0))).setCell ⟨gb125, 1, none⟩ (.int .i64 ((rd_T35 l0_3 x13_1).f1)))).cell? _ = some _ from hx126_0)); (try have hy126_1 := fun (n_ : Nat) => (show ((((w31.drewN n_).setCell ⟨gb125, 0, none⟩ (.int .i64 ((rd_T35 l0_3 x13_1).f0))).setCell ⟨gb125, 1, none⟩ (.int .i64 ((rd_T35 l0_3 x13_1).f1)))).cell? _ = some _ from hx126_1)); clear hn126_0; clear hn126_1; replace p126 := eq_true p126; replace q126 := eq_true q126))
               repeat (go_quiet (first | ((with_reducible refine gate_dst (N := 5) rfl ?_); refine box_event ?hg (N := 5) ?hd (cs := #[.int .i64 0, .int .i64 0]) (t := 35) ?hr ?_; (case hd => rfl); (case hg => rfl); (case hr => first | (go_simp; done) | (go_simp; rfl)); intro gb125 hg w31 hbox hb; have n0_ := Aside0.mk (blk_below (bG BK123.out) hb); have n1_ := Aside0.mk (below_step (eG HB.out) hb); have n2_ := Aside0.mk (hbox); have n3_ := Aside0.mk ((by rw [hg]; exact (below_size (eG HB.out)) : w.heap.size ≤ gb125)); have n4_ := Aside0.mk ((by rw [hg]; exact (below_size (eG HB.out)) : w.heap.size ≤ gb125)); have n5_ := Aside0.mk ((by rw [hg]; exact Nat.ne_of_lt (blk_lt (bG BK123.out)) : gb123 ≠ gb125)); have n6_ := Aside0.mk ((by rw [hg]; exact Nat.ne_of_gt (blk_lt (bG BK123.out)) : gb125 ≠ gb123)); clear BK123; clear HB; have BK123 := n0_; have HB := n1_; have BK125 := n2_; have GW125 := n3_; have GE125 := n4_; have ig125_ := geI GE125; have NB123_125 := n5_; have NB125_123 := n6_; clear n0_ n1_ n2_ n3_ n4_ n5_ n6_; clear hb hbox hg; have hnb32 := NB125_123.out; have hnc32 := NB123_125.out; have hcz33_0 : w31.cell? ⟨gb125, 0, none⟩ = some (.int .i64 0) := (blk_cell BK125.out 0).trans rfl; have hcz33_1 : w31.cell? ⟨gb125, 1, none⟩ = some (.int .i64 0) := (blk_cell BK125.out 1).trans rfl; have hfz33_0 := blk_frozen BK125.out 0; have hfz33_1 := blk_frozen BK125.out 1; have hcz34_0 : w31.cell? ⟨gb123, 0, none⟩ = some (.int .i64 a0_0) := (blk_cell BK123.out 0).trans rfl; have hcz34_1 : w31.cell? ⟨gb123, 1, none⟩ = some (.int .i64 a0_1) := (blk_cell BK123.out 1).trans rfl; have hcz34_2 : w31.cell? ⟨gb123, 2, none⟩ = some (.int .i64 a0_2) := (blk_cell BK123.out 2).trans rfl; have hcz34_3 : w31.cell? ⟨gb123, 3, none⟩ = some (.slice (some ad124) l0_3.length c0_3) := (blk_cell BK123.out 3).trans rfl; have hfz34_0 := blk_frozen BK123.out 0; have hfz34_1 := blk_frozen BK123.out 1; have hfz34_2 := blk_frozen BK123.out 2; have hfz34_3 := blk_frozen BK123.out 3; have p126 : 0 ≤ ((ji27) : Int) := of_decide_eq_true (by first | (with_reducible assumption) | assumption); have q126 : (ji27) < (l0_3.length : Int) := of_decide_eq_true (by first | (with_reducible assumption) | assumption); obtain ⟨ad126, e126, hx126_0, hx126_1⟩ := at_T35 HR0_3.out (ji27) p126 q126; obtain rfl : ad124 = ad126 := (by injection e126); have hn126_0 : ad124.block ≠ gb125 := Nat.ne_of_lt (Nat.lt_of_lt_of_le (by have := World.block_lt_of_cell? _ _ hx126_0; first | rwa [add_block] at this | exact this) GW125.out); have hn126_1 : ad124.block ≠ gb125 := Nat.ne_of_lt (Nat.lt_of_lt_of_le (by have := World.block_lt_of_cell? _ _ hx126_0; first | rwa [add_block] at this | exact this) GW125.out); replace hx126_0 := (HB.out.cell (World.block_lt_of_cell? w _ hx126_0)).trans hx126_0; replace hx126_1 := (HB.out.cell (World.block_lt_of_cell? w _ hx126_1)).trans hx126_1; replace hx126_0 := (cell_far (p := ⟨gb125, 0, none⟩) (by first | (rw [add_block]; exact hn126_0) | (show (Addr.add _ _).block ≠ _; rw [add_block]; exact hn126_0) | exact hn126_0) (.int .i64 ((rd_T35 l0_3 x13_1).f0))).trans hx126_0; replace hx126_1 := (cell_far (p := ⟨gb125, 0, none⟩) (by first | (rw [add_block]; exact hn126_0) | (show (Addr.add _ _).block ≠ _; rw [add_block]; exact hn126_0) | exact hn126_0) (.int .i64 ((rd_T35 l0_3 x13_1).f0))).trans hx126_1; replace hx126_0 := (cell_far (p := ⟨gb125, 1, none⟩) (by first | (rw [add_block]; exact hn126_1) | (show (Addr.add _ _).block ≠ _; rw [add_block]; exact hn126_1) | exact hn126_1) (.int .i64 ((rd_T35 l0_3 x13_1).f1))).trans hx126_0; replace hx126_1 := (cell_far (p := ⟨gb125, 1, none⟩) (by first | (rw [add_block]; exact hn126_1) | (show (Addr.add _ _).block ≠ _; rw [add_block]; exact hn126_1) | exact hn126_1) (.int .i64 ((rd_T35 l0_3 x13_1).f1))).trans hx126_1; (try have hy126_0 := fun (n_ : Nat) => (show ((((w31.drewN n_).setCell ⟨gb125, 0, none⟩ (.int .i64 ((rd_T35 l0_3 x13_1).f0))).setCell ⟨gb125, 1, none⟩ (.int .i64 ((rd_T35 l0_3 x13_1).f1)))).cell? _ = some _ from hx126_0)); (try have hy126_1 := fun (n_ : Nat) => (show ((((w31.drewN n_).setCell ⟨gb125, 0, none⟩ (.int .i64 ((rd_T35 l0_3 x13_1).f0))).setCell ⟨gb125, 1, none⟩ (.int .i64 ((rd_T35 l0_3 x13_1).f1)))).cell? _ = some _ from hx126_1)); clear hn126_0; clear hn126_1; replace p126 := eq_true p126; replace q126 := eq_true q126)); try go_wp2_with (first | ((with_reducible refine gate_dst (N := 5) rfl ?_); refine box_event ?hg (N := 5) ?hd (cs := #[.int .i64 0, .int .i64 0]) (t := 35) ?hr ?_; (case hd => rfl); (case hg => rfl); (case hr => first | (go_simp; done) | (go_simp; rfl)); intro gb125 hg w31 hbox hb; have n0_ := Aside0.mk (blk_below (bG BK123.out) hb); have n1_ := Aside0.mk (below_step (eG HB.out) hb); have n2_ := Aside0.mk (hbox); have n3_ := Aside0.mk ((by rw [hg]; exact (below_size (eG HB.out)) : w.heap.size ≤ gb125)); have n4_ := Aside0.mk ((by rw [hg]; exact (below_size (eG HB.out)) : w.heap.size ≤ gb125)); have n5_ := Aside0.mk ((by rw [hg]; exact Nat.ne_of_lt (blk_lt (bG BK123.out)) : gb123 ≠ gb125)); have n6_ := Aside0.mk ((by rw [hg]; exact Nat.ne_of_gt (blk_lt (bG BK123.out)) : gb125 ≠ gb123)); clear BK123; clear HB; have BK123 := n0_; have HB := n1_; have BK125 := n2_; have GW125 := n3_; have GE125 := n4_; have ig125_ := geI GE125; have NB123_125 := n5_; have NB125_123 := n6_; clear n0_ n1_ n2_ n3_ n4_ n5_ n6_; clear hb hbox hg; have hnb32 := NB125_123.out; have hnc32 := NB123_125.out; have hcz33_0 : w31.cell? ⟨gb125, 0, none⟩ = some (.int .i64 0) := (blk_cell BK125.out 0).trans rfl; have hcz33_1 : w31.cell? ⟨gb125, 1, none⟩ = some (.int .i64 0) := (blk_cell BK125.out 1).trans rfl; have hfz33_0 := blk_frozen BK125.out 0; have hfz33_1 := blk_frozen BK125.out 1; have hcz34_0 : w31.cell? ⟨gb123, 0, none⟩ = some (.int .i64 a0_0) := (blk_cell BK123.out 0).trans rfl; have hcz34_1 : w31.cell? ⟨gb123, 1, none⟩ = some (.int .i64 a0_1) := (blk_cell BK123.out 1).trans rfl; have hcz34_2 : w31.cell? ⟨gb123, 2, none⟩ = some (.int .i64 a0_2) := (blk_cell BK123.out 2).trans rfl; have hcz34_3 : w31.cell? ⟨gb123, 3, none⟩ = some (.slice (some ad124) l0_3.length c0_3) := (blk_cell BK123.out 3).trans rfl; have hfz34_0 := blk_frozen BK123.out 0; have hfz34_1 := blk_frozen BK123.out 1; have hfz34_2 := blk_frozen BK123.out 2; have hfz34_3 := blk_frozen BK123.out 3; have p126 : 0 ≤ ((ji27) : Int) := of_decide_eq_true (by first | (with_reducible assumption) | assumption); have q126 : (ji27) < (l0_3.length : Int) := of_decide_eq_true (by first | (with_reducible assumption) | assumption); obtain ⟨ad126, e126, hx126_0, hx126_1⟩ := at_T35 HR0_3.out (ji27) p126 q126; obtain rfl : ad124 = ad126 := (by injection e126); have hn126_0 : ad124.block ≠ gb125 := Nat.ne_of_lt (Nat.lt_of_lt_of_le (by have := World.block_lt_of_cell? _ _ hx126_0; first | rwa [add_block] at this | exact this) GW125.out); have hn126_1 : ad124.block ≠ gb125 := Nat.ne_of_lt (Nat.lt_of_lt_of_le (by have := World.block_lt_of_cell? _ _ hx126_0; first | rwa [add_block] at this | exact this) GW125.out); replace hx126_0 := (HB.out.cell (World.block_lt_of_cell? w _ hx126_0)).trans hx126_0; replace hx126_1 := (HB.out.cell (World.block_lt_of_cell? w _ hx126_1)).trans hx126_1; replace hx126_0 := (cell_far (p := ⟨gb125, 0, none⟩) (by first | (rw [add_block]; exact hn126_0) | (show (Addr.add _ _).block ≠ _; rw [add_block]; exact hn126_0) | exact hn126_0) (.int .i64 ((rd_T35 l0_3 x13_1).f0))).trans hx126_0; replace hx126_1 := (cell_far (p := ⟨gb125, 0, none⟩) (by first | (rw [add_block]; exact hn126_0) | (show (Addr.add _ _).block ≠ _; rw [add_block]; exact hn126_0) | exact hn126_0) (.int .i64 ((rd_T35 l0_3 x13_1).f0))).trans hx126_1; replace hx126_0 := (cell_far (p := ⟨gb125, 1, none⟩) (by first | (rw [add_block]; exact hn126_1) | (show (Addr.add _ _).block ≠ _; rw [add_block]; exact hn126_1) | exact hn126_1) (.int .i64 ((rd_T35 l0_3 x13_1).f1))).trans hx126_0; replace hx126_1 := (cell_far (p := ⟨gb125, 1, none⟩) (by first | (rw [add_block]; exact hn126_1) | (show (Addr.add _ _).block ≠ _; rw [add_block]; exact hn126_1) | exact hn126_1) (.int .i64 ((rd_T35 l0_3 x13_1).f1))).trans hx126_1; (try have hy126_0 := fun (n_ : Nat) => (show ((((w31.drewN n_).setCell ⟨gb125, 0, none⟩ (.int .i64 ((rd_T35 l0_3 x13_1).f0))).setCell ⟨gb125, 1, none⟩ (.int .i64 ((rd_T35 l0_3 x13_1).f1)))).cell? _ = some _ from hx126_0)); (try have hy126_1 := fun (n_ : Nat) => (show ((((w31.drewN n_).setCell ⟨gb125, 0, none⟩ (.int .i64 ((rd_T35 l0_3 x13_1).f0))).setCell ⟨gb125, 1, none⟩ (.int .i64 ((rd_T35 l0_3 x13_1).f1)))).cell? _ = some _ from hx126_1)); clear hn126_0; clear hn126_1; replace p126 := eq_true p126; replace q126 := eq_true q126)))
               go_ret
               exact ⟨by first | rfl | (simp [errW_none, errW_some] <;> rfl) | (simp only [← hji27]; first | rfl | (simp [errW_none, errW_some] <;> rfl)) | (simp [*, errW_none, errW_some] <;> rfl), eG HB.out⟩
              ·
               rw [if_neg c30] at H; have c30b0 : decide (((rd_T35 l0_3 x13_1).f0) ≤ ((rd_T35 l0_3 (ji27)).f0)) = false := decide_eq_false c30; clear c30; have H' := Aside0.mk H; clear H; have p124 : 0 ≤ (x13_1 : Int) := of_decide_eq_true (by first | (with_reducible assumption) | assumption); have q124 : x13_1 < (l0_3.length : Int) := of_decide_eq_true (by first | (with_reducible assumption) | assumption); obtain ⟨ad124, e124, hx124_0, hx124_1⟩ := at_T35 HR0_3.out x13_1 p124 q124; cases e124; replace hx124_0 := (HB.out.cell (World.block_lt_of_cell? w _ hx124_0)).trans hx124_0; replace hx124_1 := (HB.out.cell (World.block_lt_of_cell? w _ hx124_1)).trans hx124_1; replace p124 := eq_true p124; replace q124 := eq_true q124; go_wp2_with (first | ((with_reducible refine gate_dst (N := 5) rfl ?_); refine box_event ?hg (N := 5) ?hd (cs := #[.int .i64 0, .int .i64 0]) (t := 35) ?hr ?_; (case hd => rfl); (case hg => rfl); (case hr => first | (go_simp; done) | (go_simp; rfl)); intro gb125 hg w35 hbox hb; have n0_ := Aside0.mk (blk_below (bG BK123.out) hb); have n1_ := Aside0.mk (below_step (eG HB.out) hb); have n2_ := Aside0.mk (hbox); have n3_ := Aside0.mk ((by rw [hg]; exact (below_size (eG HB.out)) : w.heap.size ≤ gb125)); have n4_ := Aside0.mk ((by rw [hg]; exact (below_size (eG HB.out)) : w.heap.size ≤ gb125)); have n5_ := Aside0.mk ((by rw [hg]; exact Nat.ne_of_lt (blk_lt (bG BK123.out)) : gb123 ≠ gb125)); have n6_ := Aside0.mk ((by rw [hg]; exact Nat.ne_of_gt (blk_lt (bG BK123.out)) : gb125 ≠ gb123)); clear BK123; clear HB; have BK123 := n0_; have HB := n1_; have BK125 := n2_; have GW125 := n3_; have GE125 := n4_; have ig125_ := geI GE125; have NB123_125 := n5_; have NB125_123 := n6_; clear n0_ n1_ n2_ n3_ n4_ n5_ n6_; clear hb hbox hg; have hnb36 := NB125_123.out; have hnc36 := NB123_125.out; have hcz37_0 : w35.cell? ⟨gb125, 0, none⟩ = some (.int .i64 0) := (blk_cell BK125.out 0).trans rfl; have hcz37_1 : w35.cell? ⟨gb125, 1, none⟩ = some (.int .i64 0) := (blk_cell BK125.out 1).trans rfl; have hfz37_0 := blk_frozen BK125.out 0; have hfz37_1 := blk_frozen BK125.out 1; have hcz38_0 : w35.cell? ⟨gb123, 0, none⟩ = some (.int .i64 a0_0) := (blk_cell BK123.out 0).trans rfl; have hcz38_1 : w35.cell? ⟨gb123, 1, none⟩ = some (.int .i64 a0_1) := (blk_cell BK123.out 1).trans rfl; have hcz38_2 : w35.cell? ⟨gb123, 2, none⟩ = some (.int .i64 a0_2) := (blk_cell BK123.out 2).trans rfl; have hcz38_3 : w35.cell? ⟨gb123, 3, none⟩ = some (.slice (some ad124) l0_3.length c0_3) := (blk_cell BK123.out 3).trans rfl; have hfz38_0 := blk_frozen BK123.out 0; have hfz38_1 := blk_frozen BK123.out 1; have hfz38_2 := blk_frozen BK123.out 2; have hfz38_3 := blk_frozen BK123.out 3; have p126 : 0 ≤ ((ji27) : Int) := of_decide_eq_true (by first | (with_reducible assumption) | assumption); have q126 : (ji27) < (l0_3.length : Int) := of_decide_eq_true (by first | (with_reducible assumption) | assumption); obtain ⟨ad126, e126, hx126_0, hx126_1⟩ := at_T35 HR0_3.out (ji27) p126 q126; obtain rfl : ad124 = ad126 := (by injection e126); have hn126_0 : ad124.block ≠ gb125 := Nat.ne_of_lt (Nat.lt_of_lt_of_le (by have := World.block_lt_of_cell? _ _ hx126_0; first | rwa [add_block] at this | exact this) GW125.out); have hn126_1 : ad124.block ≠ gb125 := Nat.ne_of_lt (Nat.lt_of_lt_of_le (by have := World.block_lt_of_cell? _ _ hx126_0; first | rwa [add_block] at this | exact this) GW125.out); replace hx126_0 := (HB.out.cell (World.block_lt_of_cell? w _ hx126_0)).trans hx126_0; replace hx126_1 := (HB.out.cell (World.block_lt_of_cell? w _ hx126_1)).trans hx126_1; replace hx126_0 := (cell_far (p := ⟨gb125, 0, none⟩) (by first | (rw [add_block]; exact hn126_0) | (show (Addr.add _ _).block ≠ _; rw [add_block]; exact hn126_0) | exact hn126_0) (.int .i64 ((rd_T35 l0_3 x13_1).f0))).trans hx126_0; replace hx126_1 := (cell_far (p := ⟨gb125, 0, none⟩) (by first | (rw [add_block]; exact hn126_0) | (show (Addr.add _ _).block ≠ _; rw [add_block]; exact hn126_0) | exact hn126_0) (.int .i64 ((rd_T35 l0_3 x13_1).f0))).trans hx126_1; replace hx126_0 := (cell_far (p := ⟨gb125, 1, none⟩) (by first | (rw [add_block]; exact hn126_1) | (show (Addr.add _ _).block ≠ _; rw [add_block]; exact hn126_1) | exact hn126_1) (.int .i64 ((rd_T35 l0_3 x13_1).f1))).trans hx126_0; replace hx126_1 := (cell_far (p := ⟨gb125, 1, none⟩) (by first | (rw [add_block]; exact hn126_1) | (show (Addr.add _ _).block ≠ _; rw [add_block]; exact hn126_1) | exact hn126_1) (.int .i64 ((rd_T35 l0_3 x13_1).f1))).trans hx126_1; (try have hy126_0 := fun (n_ : Nat) => (show ((((w35.drewN n_).setCell ⟨gb125, 0, none⟩ (.int .i64 ((rd_T35 l0_3 x13_1).f0))).setCell ⟨gb125, 1, none⟩ (.int .i64 ((rd_T35 l0_3 x13_1).f1)))).cell? _ = some _ from hx126_0)); (try have hy126_1 := fun (n_ : Nat) => (show ((((w35.drewN n_).setCell ⟨gb125, 0, none⟩ (.int .i64 ((rd_T35 l0_3 x13_1).f0))).setCell ⟨gb125, 1, none⟩ (.int .i64 ((rd_T35 l0_3 x13_1).f1)))).cell? _ = some _ from hx126_1)); clear hn126_0; clear hn126_1; replace p126 := eq_true p126; replace q126 := eq_true q126))
               repeat (go_quiet (first | ((with_reducible refine gate_dst (N := 5) rfl ?_); refine box_event ?hg (N := 5) ?hd (cs := #[.int .i64 0, .int .i64 0]) (t := 35) ?hr ?_; (case hd => rfl); (case hg => rfl); (case hr => first | (go_simp; done) | (go_simp; rfl)); intro gb125 hg w35 hbox hb; have n0_ := Aside0.mk (blk_below (bG BK123.out) hb); have n1_ := Aside0.mk (below_step (eG HB.out) hb); have n2_ := Aside0.mk (hbox); have n3_ := Aside0.mk ((by rw [hg]; exact (below_size (eG HB.out)) : w.heap.size ≤ gb125)); have n4_ := Aside0.mk ((by rw [hg]; exact (below_size (eG HB.out)) : w.heap.size ≤ gb125)); have n5_ := Aside0.mk ((by rw [hg]; exact Nat.ne_of_lt (blk_lt (bG BK123.out)) : gb123 ≠ gb125)); have n6_ := Aside0.mk ((by rw [hg]; exact Nat.ne_of_gt (blk_lt (bG BK123.out)) : gb125 ≠ gb123)); clear BK123; clear HB; have BK123 := n0_; have HB := n1_; have BK125 := n2_; have GW125 := n3_; have GE125 := n4_; have ig125_ := geI GE125; have NB123_125 := n5_; have NB125_123 := n6_; clear n0_ n1_ n2_ n3_ n4_ n5_ n6_; clear hb hbox hg; have hnb36 := NB125_123.out; have hnc36 := NB123_125.out; have hcz37_0 : w35.cell? ⟨gb125, 0, none⟩ = some (.int .i64 0) := (blk_cell BK125.out 0).trans rfl; have hcz37_1 : w35.cell? ⟨gb125, 1, none⟩ = some (.int .i64 0) := (blk_cell BK125.out 1).trans rfl; have hfz37_0 := blk_frozen BK125.out 0; have hfz37_1 := blk_frozen BK125.out 1; have hcz38_0 : w35.cell? ⟨gb123, 0, none⟩ = some (.int .i64 a0_0) := (blk_cell BK123.out 0).trans rfl; have hcz38_1 : w35.cell? ⟨gb123, 1, none⟩ = some (.int .i64 a0_1) := (blk_cell BK123.out 1).trans rfl; have hcz38_2 : w35.cell? ⟨gb123, 2, none⟩ = some (.int .i64 a0_2) := (blk_cell BK123.out 2).trans rfl; have hcz38_3 : w35.cell? ⟨gb123, 3, none⟩ = some (.slice (some ad124) l0_3.length c0_3) := (blk_cell BK123.out 3).trans rfl; have hfz38_0 := blk_frozen BK123.out 0; have hfz38_1 := blk_frozen BK123.out 1; have hfz38_2 := blk_frozen BK123.out 2; have hfz38_3 := blk_frozen BK123.out 3; have p126 : 0 ≤ ((ji27) : Int) := of_decide_eq_true (by first | (with_reducible assumption) | assumption); have q126 : (ji27) < (l0_3.length : Int) := of_decide_eq_true (by first | (with_reducible assumption) | assumption); obtain ⟨ad126, e126, hx126_0, hx126_1⟩ := at_T35 HR0_3.out (ji27) p126 q126; obtain rfl : ad124 = ad126 := (by injection e126); have hn126_0 : ad124.block ≠ gb125 := Nat.ne_of_lt (Nat.lt_of_lt_of_le (by have := World.block_lt_of_cell? _ _ hx126_0; first | rwa [add_block] at this | exact this) GW125.out); have hn126_1 : ad124.block ≠ gb125 := Nat.ne_of_lt (Nat.lt_of_lt_of_le (by have := World.block_lt_of_cell? _ _ hx126_0; first | rwa [add_block] at this | exact this) GW125.out); replace hx126_0 := (HB.out.cell (World.block_lt_of_cell? w _ hx126_0)).trans hx126_0; replace hx126_1 := (HB.out.cell (World.block_lt_of_cell? w _ hx126_1)).trans hx126_1; replace hx126_0 := (cell_far (p := ⟨gb125, 0, none⟩) (by first | (rw [add_block]; exact hn126_0) | (show (Addr.add _ _).block ≠ _; rw [add_block]; exact hn126_0) | exact hn126_0) (.int .i64 ((rd_T35 l0_3 x13_1).f0))).trans hx126_0; replace hx126_1 := (cell_far (p := ⟨gb125, 0, none⟩) (by first | (rw [add_block]; exact hn126_0) | (show (Addr.add _ _).block ≠ _; rw [add_block]; exact hn126_0) | exact hn126_0) (.int .i64 ((rd_T35 l0_3 x13_1).f0))).trans hx126_1; replace hx126_0 := (cell_far (p := ⟨gb125, 1, none⟩) (by first | (rw [add_block]; exact hn126_1) | (show (Addr.add _ _).block ≠ _; rw [add_block]; exact hn126_1) | exact hn126_1) (.int .i64 ((rd_T35 l0_3 x13_1).f1))).trans hx126_0; replace hx126_1 := (cell_far (p := ⟨gb125, 1, none⟩) (by first | (rw [add_block]; exact hn126_1) | (show (Addr.add _ _).block ≠ _; rw [add_block]; exact hn126_1) | exact hn126_1) (.int .i64 ((rd_T35 l0_3 x13_1).f1))).trans hx126_1; (try have hy126_0 := fun (n_ : Nat) => (show ((((w35.drewN n_).setCell ⟨gb125, 0, none⟩ (.int .i64 ((rd_T35 l0_3 x13_1).f0))).setCell ⟨gb125, 1, none⟩ (.int .i64 ((rd_T35 l0_3 x13_1).f1)))).cell? _ = some _ from hx126_0)); (try have hy126_1 := fun (n_ : Nat) => (show ((((w35.drewN n_).setCell ⟨gb125, 0, none⟩ (.int .i64 ((rd_T35 l0_3 x13_1).f0))).setCell ⟨gb125, 1, none⟩ (.int .i64 ((rd_T35 l0_3 x13_1).f1)))).cell? _ = some _ from hx126_1)); clear hn126_0; clear hn126_1; replace p126 := eq_true p126; replace q126 := eq_true q126)); try go_wp2_with (first | ((with_reducible refine gate_dst (N := 5) rfl ?_); refine box_event ?hg (N := 5) ?hd (cs := #[.int .i64 0, .int .i64 0]) (t := 35) ?hr ?_; (case hd => rfl); (case hg => rfl); (case hr => first | (go_simp; done) | (go_simp; rfl)); intro gb125 hg w35 hbox hb; have n0_ := Aside0.mk (blk_below (bG BK123.out) hb); have n1_ := Aside0.mk (below_step (eG HB.out) hb); have n2_ := Aside0.mk (hbox); have n3_ := Aside0.mk ((by rw [hg]; exact (below_size (eG HB.out)) : w.heap.size ≤ gb125)); have n4_ := Aside0.mk ((by rw [hg]; exact (below_size (eG HB.out)) : w.heap.size ≤ gb125)); have n5_ := Aside0.mk ((by rw [hg]; exact Nat.ne_of_lt (blk_lt (bG BK123.out)) : gb123 ≠ gb125)); have n6_ := Aside0.mk ((by rw [hg]; exact Nat.ne_of_gt (blk_lt (bG BK123.out)) : gb125 ≠ gb123)); clear BK123; clear HB; have BK123 := n0_; have HB := n1_; have BK125 := n2_; have GW125 := n3_; have GE125 := n4_; have ig125_ := geI GE125; have NB123_125 := n5_; have NB125_123 := n6_; clear n0_ n1_ n2_ n3_ n4_ n5_ n6_; clear hb hbox hg; have hnb36 := NB125_123.out; have hnc36 := NB123_125.out; have hcz37_0 : w35.cell? ⟨gb125, 0, none⟩ = some (.int .i64 0) := (blk_cell BK125.out 0).trans rfl; have hcz37_1 : w35.cell? ⟨gb125, 1, none⟩ = some (.int .i64 0) := (blk_cell BK125.out 1).trans rfl; have hfz37_0 := blk_frozen BK125.out 0; have hfz37_1 := blk_frozen BK125.out 1; have hcz38_0 : w35.cell? ⟨gb123, 0, none⟩ = some (.int .i64 a0_0) := (blk_cell BK123.out 0).trans rfl; have hcz38_1 : w35.cell? ⟨gb123, 1, none⟩ = some (.int .i64 a0_1) := (blk_cell BK123.out 1).trans rfl; have hcz38_2 : w35.cell? ⟨gb123, 2, none⟩ = some (.int .i64 a0_2) := (blk_cell BK123.out 2).trans rfl; have hcz38_3 : w35.cell? ⟨gb123, 3, none⟩ = some (.slice (some ad124) l0_3.length c0_3) := (blk_cell BK123.out 3).trans rfl; have hfz38_0 := blk_frozen BK123.out 0; have hfz38_1 := blk_frozen BK123.out 1; have hfz38_2 := blk_frozen BK123.out 2; have hfz38_3 := blk_frozen BK123.out 3; have p126 : 0 ≤ ((ji27) : Int) := of_decide_eq_true (by first | (with_reducible assumption) | assumption); have q126 : (ji27) < (l0_3.length : Int) := of_decide_eq_true (by first | (with_reducible assumption) | assumption); obtain ⟨ad126, e126, hx126_0, hx126_1⟩ := at_T35 HR0_3.out (ji27) p126 q126; obtain rfl : ad124 = ad126 := (by injection e126); have hn126_0 : ad124.block ≠ gb125 := Nat.ne_of_lt (Nat.lt_of_lt_of_le (by have := World.block_lt_of_cell? _ _ hx126_0; first | rwa [add_block] at this | exact this) GW125.out); have hn126_1 : ad124.block ≠ gb125 := Nat.ne_of_lt (Nat.lt_of_lt_of_le (by have := World.block_lt_of_cell? _ _ hx126_0; first | rwa [add_block] at this | exact this) GW125.out); replace hx126_0 := (HB.out.cell (World.block_lt_of_cell? w _ hx126_0)).trans hx126_0; replace hx126_1 := (HB.out.cell (World.block_lt_of_cell? w _ hx126_1)).trans hx126_1; replace hx126_0 := (cell_far (p := ⟨gb125, 0, none⟩) (by first | (rw [add_block]; exact hn126_0) | (show (Addr.add _ _).block ≠ _; rw [add_block]; exact hn126_0) | exact hn126_0) (.int .i64 ((rd_T35 l0_3 x13_1).f0))).trans hx126_0; replace hx126_1 := (cell_far (p := ⟨gb125, 0, none⟩) (by first | (rw [add_block]; exact hn126_0) | (show (Addr.add _ _).block ≠ _; rw [add_block]; exact hn126_0) | exact hn126_0) (.int .i64 ((rd_T35 l0_3 x13_1).f0))).trans hx126_1; replace hx126_0 := (cell_far (p := ⟨gb125, 1, none⟩) (by first | (rw [add_block]; exact hn126_1) | (show (Addr.add _ _).block ≠ _; rw [add_block]; exact hn126_1) | exact hn126_1) (.int .i64 ((rd_T35 l0_3 x13_1).f1))).trans hx126_0; replace hx126_1 := (cell_far (p := ⟨gb125, 1, none⟩) (by first | (rw [add_block]; exact hn126_1) | (show (Addr.add _ _).block ≠ _; rw [add_block]; exact hn126_1) | exact hn126_1) (.int .i64 ((rd_T35 l0_3 x13_1).f1))).trans hx126_1; (try have hy126_0 := fun (n_ : Nat) => (show ((((w35.drewN n_).setCell ⟨gb125, 0, none⟩ (.int .i64 ((rd_T35 l0_3 x13_1).f0))).setCell ⟨gb125, 1, none⟩ (.int .i64 ((rd_T35 l0_3 x13_1).f1)))).cell? _ = some _ from hx126_0)); (try have hy126_1 := fun (n_ : Nat) => (show ((((w35.drewN n_).setCell ⟨gb125, 0, none⟩ (.int .i64 ((rd_T35 l0_3 x13_1).f0))).setCell ⟨gb125, 1, none⟩ (.int .i64 ((rd_T35 l0_3 x13_1).f1)))).cell? _ = some _ from hx126_1)); clear hn126_0; clear hn126_1; replace p126 := eq_true p126; replace q126 := eq_true q126)))
               go_roundg k1
               case measure => have := HK1.out; omega
               case rel => exact ⟨(wrap64 (x3_1 + ((rd_T35 l0_3 x13_1).f1))), (wrap64 (x13_1 + 1)), (by first | rfl | (simp; done) | (simp [*]; done)), (by first | rfl | (simp; done) | (simp [*]; done)), H', ⟨by have := HK1.out; omega⟩, ⟨by (with_reducible repeat first | apply bN | apply bD | apply bA); refine blk_far ?_ NB123_125.out _; (with_reducible repeat first | apply bN | apply bD | apply bA); refine blk_far ?_ NB123_125.out _; (with_reducible repeat first | apply bN | apply bD | apply bA); exact BK123.out⟩, ⟨eG HB.out⟩⟩
             · rw [if_neg c29] at H; exact absurd H (by simp)
            · rw [if_neg c28] at H; exact absurd H (by simp)
           ·
            rw [if_neg c26] at H; have c26b0 : decide (0 < x13_1) = false := decide_eq_false c26; clear c26; have H' := Aside0.mk H; clear H; have p124 : 0 ≤ (x13_1 : Int) := of_decide_eq_true (by first | (with_reducible assumption) | assumption); have q124 : x13_1 < (l0_3.length : Int) := of_decide_eq_true (by first | (with_reducible assumption) | assumption); obtain ⟨ad124, e124, hx124_0, hx124_1⟩ := at_T35 HR0_3.out x13_1 p124 q124; cases e124; replace hx124_0 := (HB.out.cell (World.block_lt_of_cell? w _ hx124_0)).trans hx124_0; replace hx124_1 := (HB.out.cell (World.block_lt_of_cell? w _ hx124_1)).trans hx124_1; replace p124 := eq_true p124; replace q124 := eq_true q124; go_wp2_with (first | ((with_reducible refine gate_dst (N := 5) rfl ?_); refine box_event ?hg (N := 5) ?hd (cs := #[.int .i64 0, .int .i64 0]) (t := 35) ?hr ?_; (case hd => rfl); (case hg => rfl); (case hr => first | (go_simp; done) | (go_simp; rfl)); intro gb125 hg w39 hbox hb; have n0_ := Aside0.mk (blk_below (bG BK123.out) hb); have n1_ := Aside0.mk (below_step (eG HB.out) hb); have n2_ := Aside0.mk (hbox); have n3_ := Aside0.mk ((by rw [hg]; exact (below_size (eG HB.out)) : w.heap.size ≤ gb125)); have n4_ := Aside0.mk ((by rw [hg]; exact (below_size (eG HB.out)) : w.heap.size ≤ gb125)); have n5_ := Aside0.mk ((by rw [hg]; exact Nat.ne_of_lt (blk_lt (bG BK123.out)) : gb123 ≠ gb125)); have n6_ := Aside0.mk ((by rw [hg]; exact Nat.ne_of_gt (blk_lt (bG BK123.out)) : gb125 ≠ gb123)); clear BK123; clear HB; have BK123 := n0_; have HB := n1_; have BK125 := n2_; have GW125 := n3_; have GE125 := n4_; have ig125_ := geI GE125; have NB123_125 := n5_; have NB125_123 := n6_; clear n0_ n1_ n2_ n3_ n4_ n5_ n6_; clear hb hbox hg; have hnb40 := NB125_123.out; have hnc40 := NB123_125.out; have hcz41_0 : w39.cell? ⟨gb125, 0, none⟩ = some (.int .i64 0) := (blk_cell BK125.out 0).trans rfl; have hcz41_1 : w39.cell? ⟨gb125, 1, none⟩ = some (.int .i64 0) := (blk_cell BK125.out 1).trans rfl; have hfz41_0 := blk_frozen BK125.out 0; have hfz41_1 := blk_frozen BK125.out 1))
            repeat (go_quiet (first | ((with_reducible refine gate_dst (N := 5) rfl ?_); refine box_event ?hg (N := 5) ?hd (cs := #[.int .i64 0, .int .i64 0]) (t := 35) ?hr ?_; (case hd => rfl); (case hg => rfl); (case hr => first | (go_simp; done) | (go_simp; rfl)); intro gb125 hg w39 hbox hb; have n0_ := Aside0.mk (blk_below (bG BK123.out) hb); have n1_ := Aside0.mk (below_step (eG HB.out) hb); have n2_ := Aside0.mk (hbox); have n3_ := Aside0.mk ((by rw [hg]; exact (below_size (eG HB.out)) : w.heap.size ≤ gb125)); have n4_ := Aside0.mk ((by rw [hg]; exact (below_size (eG HB.out)) : w.heap.size ≤ gb125)); have n5_ := Aside0.mk ((by rw [hg]; exact Nat.ne_of_lt (blk_lt (bG BK123.out)) : gb123 ≠ gb125)); have n6_ := Aside0.mk ((by rw [hg]; exact Nat.ne_of_gt (blk_lt (bG BK123.out)) : gb125 ≠ gb123)); clear BK123; clear HB; have BK123 := n0_; have HB := n1_; have BK125 := n2_; have GW125 := n3_; have GE125 := n4_; have ig125_ := geI GE125; have NB123_125 := n5_; have NB125_123 := n6_; clear n0_ n1_ n2_ n3_ n4_ n5_ n6_; clear hb hbox hg; have hnb40 := NB125_123.out; have hnc40 := NB123_125.out; have hcz41_0 : w39.cell? ⟨gb125, 0, none⟩ = some (.int .i64 0) := (blk_cell BK125.out 0).trans rfl; have hcz41_1 : w39.cell? ⟨gb125, 1, none⟩ = some (.int .i64 0) := (blk_cell BK125.out 1).trans rfl; have hfz41_0 := blk_frozen BK125.out 0; have hfz41_1 := blk_frozen BK125.out 1)); try go_wp2_with (first | ((with_reducible refine gate_dst (N := 5) rfl ?_); refine box_event ?hg (N := 5) ?hd (cs := #[.int .i64 0, .int .i64 0]) (t := 35) ?hr ?_; (case hd => rfl); (case hg => rfl); (case hr => first | (go_simp; done) | (go_simp; rfl)); intro gb125 hg w39 hbox hb; have n0_ := Aside0.mk (blk_below (bG BK123.out) hb); have n1_ := Aside0.mk (below_step (eG HB.out) hb); have n2_ := Aside0.mk (hbox); have n3_ := Aside0.mk ((by rw [hg]; exact (below_size (eG HB.out)) : w.heap.size ≤ gb125)); have n4_ := Aside0.mk ((by rw [hg]; exact (below_size (eG HB.out)) : w.heap.size ≤ gb125)); have n5_ := Aside0.mk ((by rw [hg]; exact Nat.ne_of_lt (blk_lt (bG BK123.out)) : gb123 ≠ gb125)); have n6_ := Aside0.mk ((by rw [hg]; exact Nat.ne_of_gt (blk_lt (bG BK123.out)) : gb125 ≠ gb123)); clear BK123; clear HB; have BK123 := n0_; have HB := n1_; have BK125 := n2_; have GW125 := n3_; have GE125 := n4_; have ig125_ := geI GE125; have NB123_125 := n5_; have NB125_123 := n6_; clear n0_ n1_ n2_ n3_ n4_ n5_ n6_; clear hb hbox hg; have hnb40 := NB125_123.out; have hnc40 := NB123_125.out; have hcz41_0 : w39.cell? ⟨gb125, 0, none⟩ = some (.int .i64 0) := (blk_cell BK125.out 0).trans rfl; have hcz41_1 : w39.cell? ⟨gb125, 1, none⟩ = some (.int .i64 0) := (blk_cell BK125.out 1).trans rfl; have hfz41_0 := blk_frozen BK125.out 0; have hfz41_1 := blk_frozen BK125.out 1)))
            go_roundg k1
            case measure => have := HK1.out; omega
            case rel => exact ⟨(wrap64 (x3_1 + ((rd_T35 l0_3 x13_1).f1))), (wrap64 (x13_1 + 1)), (by first | rfl | (simp; done) | (simp [*]; done)), (by first | rfl | (simp; done) | (simp [*]; done)), H', ⟨by have := HK1.out; omega⟩, ⟨by (with_reducible repeat first | apply bN | apply bD | apply bA); refine blk_far ?_ NB123_125.out _; (with_reducible repeat first | apply bN | apply bD | apply bA); refine blk_far ?_ NB123_125.out _; (with_reducible repeat first | apply bN | apply bD | apply bA); exact BK123.out⟩, ⟨eG HB.out⟩⟩
      · rw [if_neg c9] at H; exact absurd H (by simp)
     · rw [if_neg c8] at H; exact absurd H (by simp)
    ·
     rw [if_neg c7] at H; have c7b0 : decide (x13_1 < (l0_3.length : Int)) = false := decide_eq_false c7; clear c7; by_cases c42 : x3_1 = a0_1
     ·
      rw [if_pos c42] at H; have c42b0 : (x3_1 == a0_1) = true := beq_iff_eq.mpr c42; have c42b1 : (x3_1 != a0_1) = false := bne_eq_false_iff_eq.mpr c42; clear c42; obtain rfl := Option.some.inj H; have hcz43_0 : wr.cell? ⟨gb123, 0, none⟩ = some (.int .i64 a0_0) := (blk_cell BK123.out 0).trans rfl; have hcz43_1 : wr.cell? ⟨gb123, 1, none⟩ = some (.int .i64 a0_1) := (blk_cell BK123.out 1).trans rfl; have hcz43_2 : wr.cell? ⟨gb123, 2, none⟩ = some (.int .i64 a0_2) := (blk_cell BK123.out 2).trans rfl; have hcz43_3 : wr.cell? ⟨gb123, 3, none⟩ = some (.slice A0_3 l0_3.length c0_3) := (blk_cell BK123.out 3).trans rfl; have hfz43_0 := blk_frozen BK123.out 0; have hfz43_1 := blk_frozen BK123.out 1; have hfz43_2 := blk_frozen BK123.out 2; have hfz43_3 := blk_frozen BK123.out 3; go_wp2; repeat (go_quiet (fail); try go_wp2)
      go_ret
      exact ⟨by first | rfl | (simp [errW_none, errW_some] <;> rfl) | (simp [*, errW_none, errW_some] <;> rfl), eG HB.out⟩
     ·
      rw [if_neg c42] at H; have c42b0 : (x3_1 == a0_1) = false := beq_eq_false_iff_ne.mpr c42; have c42b1 : (x3_1 != a0_1) = true := bne_iff_ne.mpr c42; obtain rfl := Option.some.inj H; have hcz44_0 : wr.cell? ⟨gb123, 0, none⟩ = some (.int .i64 a0_0) := (blk_cell BK123.out 0).trans rfl; have hcz44_1 : wr.cell? ⟨gb123, 1, none⟩ = some (.int .i64 a0_1) := (blk_cell BK123.out 1).trans rfl; have hcz44_2 : wr.cell? ⟨gb123, 2, none⟩ = some (.int .i64 a0_2) := (blk_cell BK123.out 2).trans rfl; have hcz44_3 : wr.cell? ⟨gb123, 3, none⟩ = some (.slice A0_3 l0_3.length c0_3) := (blk_cell BK123.out 3).trans rfl; have hfz44_0 := blk_frozen BK123.out 0; have hfz44_1 := blk_frozen BK123.out 1; have hfz44_2 := blk_frozen BK123.out 2; have hfz44_3 := blk_frozen BK123.out 3; go_wp2; repeat (go_quiet (fail); try go_wp2)
      go_ret
      exact ⟨by first | rfl | (simp [errW_none, errW_some] <;> rfl) | (simp [*, errW_none, errW_some] <;> rfl), eG HB.out⟩
mutual
def lot_fault.j0 : Nat → List (S33) → Int → Bool → Int → Int → Int → List (S35) → Option (Int)
 | 0, _, _, _, _, _, _, _ => none
 | k + 1, x0, x1, x10, x129000, x129001, x129002, x129003 => if x10 = true then (some 2) else (if x1 > 0 then (if 0 ≤ (wrap64 (x1 - 1)) then (if (wrap64 (x1 - 1)) < (x0.length : Int) then (lot_fault.j1 k (decide (((rd_T33 x0 (wrap64 (x1 - 1))).f0) ≥ x129000)) x129000 x129001 x129002 x129003) else (none)) else (none)) else (lot_fault.j1 k false x129000 x129001 x129002 x129003))
def lot_fault.j1 : Nat → Bool → Int → Int → Int → List (S35) → Option (Int)
 | 0, _, _, _, _, _ => none
 | k + 1, x19, x129000, x129001, x129002, x129003 => if x19 = true then (some 5) else ((lot_plain.f k x129001 x129002).bind fun t130 => (if t130 = true then (if x129002 = 0 then (some 1) else ((lot_shares.f k x129000 x129001 x129002 x129003).bind fun t131 => (some t131))) else (some 1)))
end
def lot_fault.f (k : Nat) (l0 : List (S33)) (a1 : Int) : Option (Int) := if 0 ≤ a1 then (if a1 < (l0.length : Int) then (if ((rd_T33 l0 a1).f0) < 1 then (lot_fault.j0 k l0 a1 true ((rd_T33 l0 a1).f0) ((rd_T33 l0 a1).f1.f0) ((rd_T33 l0 a1).f1.f1) ((rd_T33 l0 a1).f2)) else (lot_fault.j0 k l0 a1 (decide (((rd_T33 l0 a1).f0) > 1073741824)) ((rd_T33 l0 a1).f0) ((rd_T33 l0 a1).f1.f0) ((rd_T33 l0 a1).f1.f1) ((rd_T33 l0 a1).f2))) else (none)) else (none)
set_option maxHeartbeats 8000000 in
set_option maxRecDepth 100000 in
theorem lot_fault.calls (k : Nat) (A0 : Option Addr) (c0 : Nat) (l0 : List (S33)) (a1 : Int) (r : Int) (w : World) (hr0 : Kd.C k33 w A0 l0.length l0) (hc0 : l0.length ≤ c0) (h : lot_fault.f k l0 a1 = some r) :
  Calls Tryd.prog 36 #[.slice A0 l0.length c0, .int .i64 a1] w fun e w' => e = .returned (.int .i64 r) ∧ Below w.heap.size w w' := by
 have hu33 := Tryd.underlying33; have hu26 := Tryd.underlying26; have HR0 := Aside0.mk hr0; have HC0 := Aside0.mk hc0; clear hr0 hc0; have HB := Aside0.mk (Below.refl w.heap.size w); have H : (if 0 ≤ a1 then (if a1 < (l0.length : Int) then (if ((rd_T33 l0 a1).f0) < 1 then (lot_fault.j0 k l0 a1 true ((rd_T33 l0 a1).f0) ((rd_T33 l0 a1).f1.f0) ((rd_T33 l0 a1).f1.f1) ((rd_T33 l0 a1).f2)) else (lot_fault.j0 k l0 a1 (decide (((rd_T33 l0 a1).f0) > 1073741824)) ((rd_T33 l0 a1).f0) ((rd_T33 l0 a1).f1.f0) ((rd_T33 l0 a1).f1.f1) ((rd_T33 l0 a1).f2))) else (none)) else (none)) = some r := h; clear h; by_cases c3 : 0 ≤ a1
 ·
  rw [if_pos c3] at H; have c3b0 : decide (0 ≤ a1) = true := decide_eq_true c3; clear c3; by_cases c4 : a1 < (l0.length : Int)
  ·
   rw [if_pos c4] at H; have c4b0 : decide (a1 < (l0.length : Int)) = true := decide_eq_true c4; clear c4; have HC5 := Aside0.mk H; clear H; have p127 : 0 ≤ (a1 : Int) := of_decide_eq_true (by first | (with_reducible assumption) | assumption); have q127 : a1 < (l0.length : Int) := of_decide_eq_true (by first | (with_reducible assumption) | assumption); obtain ⟨ad127, A127_3, c127_3, e127, hx127_0, hx127_1, hx127_2, hx127_3, hl127_3, hi127_3⟩ := at_T33 HR0.out a1 p127 q127; cases e127; have HR127_3 := Aside0.mk hi127_3; have HC127_3 := Aside0.mk hl127_3; clear hi127_3 hl127_3; replace p127 := eq_true p127; replace q127 := eq_true q127; go_enter Tryd.func36, Tryd.ntmps36
   go_upto_region 2 with (first | ((with_reducible refine gate_dst (N := 5) rfl ?_); refine box_event ?hg (N := 5) ?hd (cs := #[.int .i64 0, .int .i64 0, .int .i64 0, .slice none 0 0]) (t := 33) ?hr ?_; (case hd => rfl); (case hg => rfl); (case hr => first | (go_simp; done) | (go_simp; rfl)); intro gb128 hg w6 hbox hb; have n0_ := Aside0.mk (below_step (eG HB.out) hb); have n1_ := Aside0.mk (hbox); have n2_ := Aside0.mk ((by rw [hg]; exact (below_size (eG HB.out)) : w.heap.size ≤ gb128)); have n3_ := Aside0.mk ((by rw [hg]; exact (below_size (eG HB.out)) : w.heap.size ≤ gb128)); clear HB; have HB := n0_; have BK128 := n1_; have GW128 := n2_; have GE128 := n3_; have ig128_ := geI GE128; clear n0_ n1_ n2_ n3_; clear hb hbox hg; have hcz7_0 : w6.cell? ⟨gb128, 0, none⟩ = some (.int .i64 0) := (blk_cell BK128.out 0).trans rfl; have hcz7_1 : w6.cell? ⟨gb128, 1, none⟩ = some (.int .i64 0) := (blk_cell BK128.out 1).trans rfl; have hcz7_2 : w6.cell? ⟨gb128, 2, none⟩ = some (.int .i64 0) := (blk_cell BK128.out 2).trans rfl; have hcz7_3 : w6.cell? ⟨gb128, 3, none⟩ = some (.slice none 0 0) := (blk_cell BK128.out 3).trans rfl; have hfz7_0 := blk_frozen BK128.out 0; have hfz7_1 := blk_frozen BK128.out 1; have hfz7_2 := blk_frozen BK128.out 2; have hfz7_3 := blk_frozen BK128.out 3))
   repeat (go_quiet (first | ((with_reducible refine gate_dst (N := 5) rfl ?_); refine box_event ?hg (N := 5) ?hd (cs := #[.int .i64 0, .int .i64 0, .int .i64 0, .slice none 0 0]) (t := 33) ?hr ?_; (case hd => rfl); (case hg => rfl); (case hr => first | (go_simp; done) | (go_simp; rfl)); intro gb128 hg w6 hbox hb; have n0_ := Aside0.mk (below_step (eG HB.out) hb); have n1_ := Aside0.mk (hbox); have n2_ := Aside0.mk ((by rw [hg]; exact (below_size (eG HB.out)) : w.heap.size ≤ gb128)); have n3_ := Aside0.mk ((by rw [hg]; exact (below_size (eG HB.out)) : w.heap.size ≤ gb128)); clear HB; have HB := n0_; have BK128 := n1_; have GW128 := n2_; have GE128 := n3_; have ig128_ := geI GE128; clear n0_ n1_ n2_ n3_; clear hb hbox hg; have hcz7_0 : w6.cell? ⟨gb128, 0, none⟩ = some (.int .i64 0) := (blk_cell BK128.out 0).trans rfl; have hcz7_1 : w6.cell? ⟨gb128, 1, none⟩ = some (.int .i64 0) := (blk_cell BK128.out 1).trans rfl; have hcz7_2 : w6.cell? ⟨gb128, 2, none⟩ = some (.int .i64 0) := (blk_cell BK128.out 2).trans rfl; have hcz7_3 : w6.cell? ⟨gb128, 3, none⟩ = some (.slice none 0 0) := (blk_cell BK128.out 3).trans rfl; have hfz7_0 := blk_frozen BK128.out 0; have hfz7_1 := blk_frozen BK128.out 1; have hfz7_2 := blk_frozen BK128.out 2; have hfz7_3 := blk_frozen BK128.out 3)); go_upto_region 2 with (first | ((with_reducible refine gate_dst (N := 5) rfl ?_); refine box_event ?hg (N := 5) ?hd (cs := #[.int .i64 0, .int .i64 0, .int .i64 0, .slice none 0 0]) (t := 33) ?hr ?_; (case hd => rfl); (case hg => rfl); (case hr => first | (go_simp; done) | (go_simp; rfl)); intro gb128 hg w6 hbox hb; have n0_ := Aside0.mk (below_step (eG HB.out) hb); have n1_ := Aside0.mk (hbox); have n2_ := Aside0.mk ((by rw [hg]; exact (below_size (eG HB.out)) : w.heap.size ≤ gb128)); have n3_ := Aside0.mk ((by rw [hg]; exact (below_size (eG HB.out)) : w.heap.size ≤ gb128)); clear HB; have HB := n0_; have BK128 := n1_; have GW128 := n2_; have GE128 := n3_; have ig128_ := geI GE128; clear n0_ n1_ n2_ n3_; clear hb hbox hg; have hcz7_0 : w6.cell? ⟨gb128, 0, none⟩ = some (.int .i64 0) := (blk_cell BK128.out 0).trans rfl; have hcz7_1 : w6.cell? ⟨gb128, 1, none⟩ = some (.int .i64 0) := (blk_cell BK128.out 1).trans rfl; have hcz7_2 : w6.cell? ⟨gb128, 2, none⟩ = some (.int .i64 0) := (blk_cell BK128.out 2).trans rfl; have hcz7_3 : w6.cell? ⟨gb128, 3, none⟩ = some (.slice none 0 0) := (blk_cell BK128.out 3).trans rfl; have hfz7_0 := blk_frozen BK128.out 0; have hfz7_1 := blk_frozen BK128.out 1; have hfz7_2 := blk_frozen BK128.out 2; have hfz7_3 := blk_frozen BK128.out 3)))
   (try simp only [Act.put, sIA, sC0, sCS])
   go_cut [10] (fun v10 wc => ∃ (kq : Nat) (x10_4 : Bool), v10 = .bool x10_4 ∧ Aside0 (lot_fault.j0 kq l0 a1 x10_4 ((rd_T33 l0 a1).f0) ((rd_T33 l0 a1).f1.f0) ((rd_T33 l0 a1).f1.f1) ((rd_T33 l0 a1).f2) = some r) ∧ Aside0 (kq ≤ k) ∧ Aside0 (wc.heap[gb128]? = some (.cells #[.int .i64 ((rd_T33 l0 a1).f0), .int .i64 ((rd_T33 l0 a1).f1.f0), .int .i64 ((rd_T33 l0 a1).f1.f1), (.slice A127_3 ((rd_T33 l0 a1).f2).length c127_3)] 33 (0, 0))) ∧ Aside0 (Below w.heap.size w wc))
   case first =>
    have H := HC5.out; clear HC5; by_cases c8 : ((rd_T33 l0 a1).f0) < 1
    ·
     rw [if_pos c8] at H; have c8b0 : decide (((rd_T33 l0 a1).f0) < 1) = true := decide_eq_true c8; clear c8; (first | rw [c8b0] | (simp only [i64_w, i32_w]; rw [c8b0]) | skip)
     have H' := Aside0.mk H; clear H; have hcz9_0 : w6.cell? ⟨gb128, 0, none⟩ = some (.int .i64 0) := (blk_cell BK128.out 0).trans rfl; have hcz9_1 : w6.cell? ⟨gb128, 1, none⟩ = some (.int .i64 0) := (blk_cell BK128.out 1).trans rfl; have hcz9_2 : w6.cell? ⟨gb128, 2, none⟩ = some (.int .i64 0) := (blk_cell BK128.out 2).trans rfl; have hcz9_3 : w6.cell? ⟨gb128, 3, none⟩ = some (.slice none 0 0) := (blk_cell BK128.out 3).trans rfl; have hfz9_0 := blk_frozen BK128.out 0; have hfz9_1 := blk_frozen BK128.out 1; have hfz9_2 := blk_frozen BK128.out 2; have hfz9_3 := blk_frozen BK128.out 3; go_wp2; repeat (go_quiet (fail); try go_wp2)
     go_meet
     case rel => exact ⟨_, (true), (by first | rfl | (simp; done) | (simp [*]; done)), H', ⟨by first | omega | exact Nat.le_refl _⟩, ⟨by (with_reducible repeat first | apply bN | apply bD | apply bA); refine blk_put (cs := #[.int .i64 ((rd_T33 l0 a1).f0), .int .i64 ((rd_T33 l0 a1).f1.f0), .int .i64 ((rd_T33 l0 a1).f1.f1), .slice none 0 0]) ?_ 3 _ rfl; (with_reducible repeat first | apply bN | apply bD | apply bA); refine blk_put (cs := #[.int .i64 ((rd_T33 l0 a1).f0), .int .i64 ((rd_T33 l0 a1).f1.f0), .int .i64 0, .slice none 0 0]) ?_ 2 _ rfl; (with_reducible repeat first | apply bN | apply bD | apply bA); refine blk_put (cs := #[.int .i64 ((rd_T33 l0 a1).f0), .int .i64 0, .int .i64 0, .slice none 0 0]) ?_ 1 _ rfl; (with_reducible repeat first | apply bN | apply bD | apply bA); refine blk_put (cs := #[.int .i64 0, .int .i64 0, .int .i64 0, .slice none 0 0]) ?_ 0 _ rfl; (with_reducible repeat first | apply bN | apply bD | apply bA); exact BK128.out⟩, ⟨eG HB.out⟩⟩
    ·
     rw [if_neg c8] at H; have c8b0 : decide (((rd_T33 l0 a1).f0) < 1) = false := decide_eq_false c8; clear c8; (first | rw [c8b0] | (simp only [i64_w, i32_w]; rw [c8b0]) | skip)
     have H' := Aside0.mk H; clear H; have hcz10_0 : w6.cell? ⟨gb128, 0, none⟩ = some (.int .i64 0) := (blk_cell BK128.out 0).trans rfl; have hcz10_1 : w6.cell? ⟨gb128, 1, none⟩ = some (.int .i64 0) := (blk_cell BK128.out 1).trans rfl; have hcz10_2 : w6.cell? ⟨gb128, 2, none⟩ = some (.int .i64 0) := (blk_cell BK128.out 2).trans rfl; have hcz10_3 : w6.cell? ⟨gb128, 3, none⟩ = some (.slice none 0 0) := (blk_cell BK128.out 3).trans rfl; have hfz10_0 := blk_frozen BK128.out 0; have hfz10_1 := blk_frozen BK128.out 1; have hfz10_2 := blk_frozen BK128.out 2; have hfz10_3 := blk_frozen BK128.out 3; go_wp2; repeat (go_quiet (fail); try go_wp2)
     go_meet
     case rel => exact ⟨_, (decide (((rd_T33 l0 a1).f0) > 1073741824)), (by first | rfl | (simp; done) | (simp [*]; done)), H', ⟨by first | omega | exact Nat.le_refl _⟩, ⟨by (with_reducible repeat first | apply bN | apply bD | apply bA); refine blk_put (cs := #[.int .i64 ((rd_T33 l0 a1).f0), .int .i64 ((rd_T33 l0 a1).f1.f0), .int .i64 ((rd_T33 l0 a1).f1.f1), .slice none 0 0]) ?_ 3 _ rfl; (with_reducible repeat first | apply bN | apply bD | apply bA); refine blk_put (cs := #[.int .i64 ((rd_T33 l0 a1).f0), .int .i64 ((rd_T33 l0 a1).f1.f0), .int .i64 0, .slice none 0 0]) ?_ 2 _ rfl; (with_reducible repeat first | apply bN | apply bD | apply bA); refine blk_put (cs := #[.int .i64 ((rd_T33 l0 a1).f0), .int .i64 0, .int .i64 0, .slice none 0 0]) ?_ 1 _ rfl; (with_reducible repeat first | apply bN | apply bD | apply bA); refine blk_put (cs := #[.int .i64 0, .int .i64 0, .int .i64 0, .slice none 0 0]) ?_ 0 _ rfl; (with_reducible repeat first | apply bN | apply bD | apply bA); exact BK128.out⟩, ⟨eG HB.out⟩⟩
   case rest =>
    clear HC5; repeat first | clear c1 | clear p1 | clear q1 | clear hx1 | clear p2 | clear c3 | clear c3b0 | clear c4 | clear c4b0 | clear c8 | clear c8b0 | clear hcz10_0 | clear hcz10_1 | clear hcz10_2 | clear hcz10_3 | clear hcz7_0 | clear hcz7_1 | clear hcz7_2 | clear hcz7_3 | clear hcz9_0 | clear hcz9_1 | clear hcz9_2 | clear hcz9_3 | clear hfz10_0 | clear hfz10_1 | clear hfz10_2 | clear hfz10_3 | clear hfz7_0 | clear hfz7_1 | clear hfz7_2 | clear hfz7_3 | clear hfz9_0 | clear hfz9_1 | clear hfz9_2 | clear hfz9_3 | clear hx127_0 | clear hx127_1 | clear hx127_2 | clear hx127_3 | clear p127 | clear q127
    obtain ⟨kq, x10_4, rfl, HA, HJ4, BK128, HB⟩ := hcut
    cases kq with
    | zero => exact absurd HA.out (by simp [lot_fault.j0])
    | succ kj4 =>
     have H := HA.out; clear HA; simp only [lot_fault.j0] at H; by_cases c11 : x10_4 = true
     ·
      subst c11; replace H : (some 2) = some r := by rw [if_pos rfl] at H; exact H
      obtain rfl := Option.some.inj H; go_wp2; repeat (go_quiet (fail); try go_wp2)
      go_ret
      exact ⟨by first | rfl | (simp [errW_none, errW_some] <;> rfl) | (simp [*, errW_none, errW_some] <;> rfl), eG HB.out⟩
     ·
      replace c11 := Bool.eq_false_iff.mpr c11; subst c11; replace H : (if a1 > 0 then (if 0 ≤ (wrap64 (a1 - 1)) then (if (wrap64 (a1 - 1)) < (l0.length : Int) then (lot_fault.j1 kj4 (decide (((rd_T33 l0 (wrap64 (a1 - 1))).f0) ≥ ((rd_T33 l0 a1).f0))) ((rd_T33 l0 a1).f0) ((rd_T33 l0 a1).f1.f0) ((rd_T33 l0 a1).f1.f1) ((rd_T33 l0 a1).f2)) else (none)) else (none)) else (lot_fault.j1 kj4 false ((rd_T33 l0 a1).f0) ((rd_T33 l0 a1).f1.f0) ((rd_T33 l0 a1).f1.f1) ((rd_T33 l0 a1).f2))) = some r := by rw [if_neg (show ¬ (false = true) by decide)] at H; exact H
      have HC12 := Aside0.mk H; clear H; go_upto_region 4 with (fail)
      repeat (go_quiet (fail); go_upto_region 4 with (fail))
      go_cut [19] (fun v19 wc => ∃ (kq : Nat) (x19_11 : Bool), v19 = .bool x19_11 ∧ Aside0 (lot_fault.j1 kq x19_11 ((rd_T33 l0 a1).f0) ((rd_T33 l0 a1).f1.f0) ((rd_T33 l0 a1).f1.f1) ((rd_T33 l0 a1).f2) = some r) ∧ Aside0 (kq ≤ kj4) ∧ Aside0 (wc.heap[gb128]? = some (.cells #[.int .i64 ((rd_T33 l0 a1).f0), .int .i64 ((rd_T33 l0 a1).f1.f0), .int .i64 ((rd_T33 l0 a1).f1.f1), (.slice A127_3 ((rd_T33 l0 a1).f2).length c127_3)] 33 (0, 0))) ∧ Aside0 (Below w.heap.size w wc))
      case first =>
       have H := HC12.out; clear HC12; by_cases c13 : a1 > 0
       ·
        rw [if_pos c13] at H; have c13b0 : decide (0 < a1) = true := decide_eq_true c13; clear c13; (first | rw [c13b0] | (simp only [i64_w, i32_w]; rw [c13b0]) | skip)
        obtain ⟨ji14, hji14⟩ : ∃ j_ : Int, (wrap64 (a1 - 1)) = j_ := ⟨_, rfl⟩; replace H : (if 0 ≤ (ji14) then (if (ji14) < (l0.length : Int) then (lot_fault.j1 kj4 (decide (((rd_T33 l0 (ji14)).f0) ≥ ((rd_T33 l0 a1).f0))) ((rd_T33 l0 a1).f0) ((rd_T33 l0 a1).f1.f0) ((rd_T33 l0 a1).f1.f1) ((rd_T33 l0 a1).f2)) else (none)) else (none)) = some r := by first | (rw [hji14] at H; exact H) | (simp only [hji14] at H ⊢; exact H)
        have hji14w : (IntKind.i64.wrap (a1 - 1)) = ji14 := (i64_w _).trans hji14; by_cases c15 : 0 ≤ (ji14)
        ·
         rw [if_pos c15] at H; have c15b0 : decide (0 ≤ (ji14)) = true := decide_eq_true c15; clear c15; by_cases c16 : (ji14) < (l0.length : Int)
         ·
          rw [if_pos c16] at H; have c16b0 : decide ((ji14) < (l0.length : Int)) = true := decide_eq_true c16; clear c16; have H' := Aside0.mk H; clear H; have p129 : 0 ≤ ((ji14) : Int) := of_decide_eq_true (by first | (with_reducible assumption) | assumption); have q129 : (ji14) < (l0.length : Int) := of_decide_eq_true (by first | (with_reducible assumption) | assumption); obtain ⟨ad129, A129_3, c129_3, e129, hx129_0, hx129_1, hx129_2, hx129_3, hl129_3, hi129_3⟩ := at_T33 HR0.out (ji14) p129 q129; obtain rfl : ad127 = ad129 := (by injection e129); replace hx129_0 := (HB.out.cell (World.block_lt_of_cell? w _ hx129_0)).trans hx129_0; replace hx129_1 := (HB.out.cell (World.block_lt_of_cell? w _ hx129_1)).trans hx129_1; replace hx129_2 := (HB.out.cell (World.block_lt_of_cell? w _ hx129_2)).trans hx129_2; replace hx129_3 := (HB.out.cell (World.block_lt_of_cell? w _ hx129_3)).trans hx129_3; have HR129_3 := Aside0.mk hi129_3; have HC129_3 := Aside0.mk hl129_3; clear hi129_3 hl129_3; replace p129 := eq_true p129; replace q129 := eq_true q129; have hcz17_0 : wc.cell? ⟨gb128, 0, none⟩ = some (.int .i64 ((rd_T33 l0 a1).f0)) := (blk_cell BK128.out 0).trans rfl; have hcz17_1 : wc.cell? ⟨gb128, 1, none⟩ = some (.int .i64 ((rd_T33 l0 a1).f1.f0)) := (blk_cell BK128.out 1).trans rfl; have hcz17_2 : wc.cell? ⟨gb128, 2, none⟩ = some (.int .i64 ((rd_T33 l0 a1).f1.f1)) := (blk_cell BK128.out 2).trans rfl; have hcz17_3 : wc.cell? ⟨gb128, 3, none⟩ = some (.slice A127_3 ((rd_T33 l0 a1).f2).length c127_3) := (blk_cell BK128.out 3).trans rfl; have hfz17_0 := blk_frozen BK128.out 0; have hfz17_1 := blk_frozen BK128.out 1; have hfz17_2 := blk_frozen BK128.out 2; have hfz17_3 := blk_frozen BK128.out 3; go_wp2; repeat (go_quiet (fail); try go_wp2)
          go_meet
          case rel => exact ⟨_, (decide (((rd_T33 l0 (ji14)).f0) ≥ ((rd_T33 l0 a1).f0))), (by first | rfl | (simp; done) | (simp only [← hji14] <;> (first | rfl | simp)) | (simp [*]; done)), H', ⟨by have := HJ4.out; first | omega | exact Nat.le_refl _⟩, ⟨by (with_reducible repeat first | apply bN | apply bD | apply bA); exact BK128.out⟩, ⟨eG HB.out⟩⟩
         · rw [if_neg c16] at H; exact absurd H (by simp)
        · rw [if_neg c15] at H; exact absurd H (by simp)
       ·
        rw [if_neg c13] at H; have c13b0 : decide (0 < a1) = false := decide_eq_false c13; clear c13; (first | rw [c13b0] | (simp only [i64_w, i32_w]; rw [c13b0]) | skip)
        have H' := Aside0.mk H; clear H; go_wp2; repeat (go_quiet (fail); try go_wp2)
        go_meet
        case rel => exact ⟨_, (false), (by first | rfl | (simp; done) | (simp [*]; done)), H', ⟨by have := HJ4.out; first | omega | exact Nat.le_refl _⟩, ⟨by (with_reducible repeat first | apply bN | apply bD | apply bA); exact BK128.out⟩, ⟨eG HB.out⟩⟩
      case rest =>
       clear HC12; repeat first | clear c1 | clear p1 | clear q1 | clear hx1 | clear p2 | clear c3 | clear c3b0 | clear c4 | clear c4b0 | clear p6 | clear c8 | clear c8b0 | clear c11 | clear c12 | clear p12 | clear q12 | clear hx12 | clear c13 | clear c13b0 | clear c15 | clear c15b0 | clear c16 | clear c16b0 | clear hcz10_0 | clear hcz10_1 | clear hcz10_2 | clear hcz10_3 | clear hcz17_0 | clear hcz17_1 | clear hcz17_2 | clear hcz17_3 | clear hcz7_0 | clear hcz7_1 | clear hcz7_2 | clear hcz7_3 | clear hcz9_0 | clear hcz9_1 | clear hcz9_2 | clear hcz9_3 | clear hfz10_0 | clear hfz10_1 | clear hfz10_2 | clear hfz10_3 | clear hfz17_0 | clear hfz17_1 | clear hfz17_2 | clear hfz17_3 | clear hfz7_0 | clear hfz7_1 | clear hfz7_2 | clear hfz7_3 | clear hfz9_0 | clear hfz9_1 | clear hfz9_2 | clear hfz9_3 | clear hx127_0 | clear hx127_1 | clear hx127_2 | clear hx127_3 | clear hx129_0 | clear hx129_1 | clear hx129_2 | clear hx129_3 | clear p1 | clear p127 | clear p129 | clear p2 | clear q1 | clear q127 | clear q129
       obtain ⟨kq, x19_11, rfl, HA, HJ11, BK128, HB⟩ := hcut
       cases kq with
       | zero => exact absurd HA.out (by simp [lot_fault.j1])
       | succ kj11 =>
        have H := HA.out; clear HA; simp only [lot_fault.j1] at H; by_cases c18 : x19_11 = true
        ·
         subst c18; replace H : (some 5) = some r := by rw [if_pos rfl] at H; exact H
         obtain rfl := Option.some.inj H; go_wp2; repeat (go_quiet (fail); try go_wp2)
         go_ret
         exact ⟨by first | rfl | (simp [errW_none, errW_some] <;> rfl) | (simp [*, errW_none, errW_some] <;> rfl), eG HB.out⟩
        ·
         replace c18 := Bool.eq_false_iff.mpr c18; subst c18; replace H : ((lot_plain.f kj11 ((rd_T33 l0 a1).f1.f0) ((rd_T33 l0 a1).f1.f1)).bind fun t130 => (if t130 = true then (if ((rd_T33 l0 a1).f1.f1) = 0 then (some 1) else ((lot_shares.f kj11 ((rd_T33 l0 a1).f0) ((rd_T33 l0 a1).f1.f0) ((rd_T33 l0 a1).f1.f1) ((rd_T33 l0 a1).f2)).bind fun t131 => (some t131))) else (some 1))) = some r := by rw [if_neg (show ¬ (false = true) by decide)] at H; exact H
         replace H := Option.bind_eq_some_iff.mp H; obtain ⟨t130, A190, H⟩ := H; replace H : (if t130 = true then (if ((rd_T33 l0 a1).f1.f1) = 0 then (some 1) else ((lot_shares.f kj11 ((rd_T33 l0 a1).f0) ((rd_T33 l0 a1).f1.f0) ((rd_T33 l0 a1).f1.f1) ((rd_T33 l0 a1).f2)).bind fun t131 => (some t131))) else (some 1)) = some r := H; have A19 := Aside0.mk A190; clear A190; by_cases c20 : t130 = true
         ·
          subst c20; replace H : (if ((rd_T33 l0 a1).f1.f1) = 0 then (some 1) else ((lot_shares.f kj11 ((rd_T33 l0 a1).f0) ((rd_T33 l0 a1).f1.f0) ((rd_T33 l0 a1).f1.f1) ((rd_T33 l0 a1).f2)).bind fun t131 => (some t131))) = some r := by rw [if_pos rfl] at H; exact H
          by_cases c21 : ((rd_T33 l0 a1).f1.f1) = 0
          ·
           rw [if_pos c21] at H; have c21b0 : (((rd_T33 l0 a1).f1.f1) == 0) = true := beq_iff_eq.mpr c21; have c21b1 : (((rd_T33 l0 a1).f1.f1) != 0) = false := bne_eq_false_iff_eq.mpr c21; clear c21; obtain rfl := Option.some.inj H; have hcz22_0 : wc.cell? ⟨gb128, 0, none⟩ = some (.int .i64 ((rd_T33 l0 a1).f0)) := (blk_cell BK128.out 0).trans rfl; have hcz22_1 : wc.cell? ⟨gb128, 1, none⟩ = some (.int .i64 ((rd_T33 l0 a1).f1.f0)) := (blk_cell BK128.out 1).trans rfl; have hcz22_2 : wc.cell? ⟨gb128, 2, none⟩ = some (.int .i64 ((rd_T33 l0 a1).f1.f1)) := (blk_cell BK128.out 2).trans rfl; have hcz22_3 : wc.cell? ⟨gb128, 3, none⟩ = some (.slice A127_3 ((rd_T33 l0 a1).f2).length c127_3) := (blk_cell BK128.out 3).trans rfl; have hfz22_0 := blk_frozen BK128.out 0; have hfz22_1 := blk_frozen BK128.out 1; have hfz22_2 := blk_frozen BK128.out 2; have hfz22_3 := blk_frozen BK128.out 3; go_wp2_with (first | (go_at_call 35; (with_reducible refine (lot_plain.calls kj11 ((rd_T33 l0 a1).f1.f0) ((rd_T33 l0 a1).f1.f1) true _ A19.out).mono ?_); rintro e w23 ⟨rfl, hb⟩; have n0_ := Aside0.mk (blk_below (bG BK128.out) hb); have n1_ := Aside0.mk (below_step (eG HB.out) hb); clear BK128; clear HB; have BK128 := n0_; have HB := n1_; clear n0_ n1_; (try clear hb); (try clear hb2); (try clear hk); (try clear hi); have hcz24_0 : w23.cell? ⟨gb128, 0, none⟩ = some (.int .i64 ((rd_T33 l0 a1).f0)) := (blk_cell BK128.out 0).trans rfl; have hcz24_1 : w23.cell? ⟨gb128, 1, none⟩ = some (.int .i64 ((rd_T33 l0 a1).f1.f0)) := (blk_cell BK128.out 1).trans rfl; have hcz24_2 : w23.cell? ⟨gb128, 2, none⟩ = some (.int .i64 ((rd_T33 l0 a1).f1.f1)) := (blk_cell BK128.out 2).trans rfl; have hcz24_3 : w23.cell? ⟨gb128, 3, none⟩ = some (.slice A127_3 ((rd_T33 l0 a1).f2).length c127_3) := (blk_cell BK128.out 3).trans rfl; have hfz24_0 := blk_frozen BK128.out 0; have hfz24_1 := blk_frozen BK128.out 1; have hfz24_2 := blk_frozen BK128.out 2; have hfz24_3 := blk_frozen BK128.out 3))
           repeat (go_quiet (first | (go_at_call 35; (with_reducible refine (lot_plain.calls kj11 ((rd_T33 l0 a1).f1.f0) ((rd_T33 l0 a1).f1.f1) true _ A19.out).mono ?_); rintro e w23 ⟨rfl, hb⟩; have n0_ := Aside0.mk (blk_below (bG BK128.out) hb); have n1_ := Aside0.mk (below_step (eG HB.out) hb); clear BK128; clear HB; have BK128 := n0_; have HB := n1_; clear n0_ n1_; (try clear hb); (try clear hb2); (try clear hk); (try clear hi); have hcz24_0 : w23.cell? ⟨gb128, 0, none⟩ = some (.int .i64 ((rd_T33 l0 a1).f0)) := (blk_cell BK128.out 0).trans rfl; have hcz24_1 : w23.cell? ⟨gb128, 1, none⟩ = some (.int .i64 ((rd_T33 l0 a1).f1.f0)) := (blk_cell BK128.out 1).trans rfl; have hcz24_2 : w23.cell? ⟨gb128, 2, none⟩ = some (.int .i64 ((rd_T33 l0 a1).f1.f1)) := (blk_cell BK128.out 2).trans rfl; have hcz24_3 : w23.cell? ⟨gb128, 3, none⟩ = some (.slice A127_3 ((rd_T33 l0 a1).f2).length c127_3) := (blk_cell BK128.out 3).trans rfl; have hfz24_0 := blk_frozen BK128.out 0; have hfz24_1 := blk_frozen BK128.out 1; have hfz24_2 := blk_frozen BK128.out 2; have hfz24_3 := blk_frozen BK128.out 3)); try go_wp2_with (first | (go_at_call 35; (with_reducible refine (lot_plain.calls kj11 ((rd_T33 l0 a1).f1.f0) ((rd_T33 l0 a1).f1.f1) true _ A19.out).mono ?_); rintro e w23 ⟨rfl, hb⟩; have n0_ := Aside0.mk (blk_below (bG BK128.out) hb); have n1_ := Aside0.mk (below_step (eG HB.out) hb); clear BK128; clear HB; have BK128 := n0_; have HB := n1_; clear n0_ n1_; (try clear hb); (try clear hb2); (try clear hk); (try clear hi); have hcz24_0 : w23.cell? ⟨gb128, 0, none⟩ = some (.int .i64 ((rd_T33 l0 a1).f0)) := (blk_cell BK128.out 0).trans rfl; have hcz24_1 : w23.cell? ⟨gb128, 1, none⟩ = some (.int .i64 ((rd_T33 l0 a1).f1.f0)) := (blk_cell BK128.out 1).trans rfl; have hcz24_2 : w23.cell? ⟨gb128, 2, none⟩ = some (.int .i64 ((rd_T33 l0 a1).f1.f1)) := (blk_cell BK128.out 2).trans rfl; have hcz24_3 : w23.cell? ⟨gb128, 3, none⟩ = some (.slice A127_3 ((rd_T33 l0 a1).f2).length c127_3) := (blk_cell BK128.out 3).trans rfl; have hfz24_0 := blk_frozen BK128.out 0; have hfz24_1 := blk_frozen BK128.out 1; have hfz24_2 := blk_frozen BK128.out 2; have hfz24_3 := blk_frozen BK128.out 3)))
           go_ret
           exact ⟨by first | rfl | (simp [errW_none, errW_some] <;> rfl) | (simp [*, errW_none, errW_some] <;> rfl), eG HB.out⟩
          ·
           rw [if_neg c21] at H; have c21b0 : (((rd_T33 l0 a1).f1.f1) == 0) = false := beq_eq_false_iff_ne.mpr c21; have c21b1 : (((rd_T33 l0 a1).f1.f1) != 0) = true := bne_iff_ne.mpr c21; replace H := Option.bind_eq_some_iff.mp H; obtain ⟨t131, A250, H⟩ := H; replace H : (some t131) = some r := H; have A25 := Aside0.mk A250; clear A250; obtain rfl := Option.some.inj H; have hcz26_0 : wc.cell? ⟨gb128, 0, none⟩ = some (.int .i64 ((rd_T33 l0 a1).f0)) := (blk_cell BK128.out 0).trans rfl; have hcz26_1 : wc.cell? ⟨gb128, 1, none⟩ = some (.int .i64 ((rd_T33 l0 a1).f1.f0)) := (blk_cell BK128.out 1).trans rfl; have hcz26_2 : wc.cell? ⟨gb128, 2, none⟩ = some (.int .i64 ((rd_T33 l0 a1).f1.f1)) := (blk_cell BK128.out 2).trans rfl; have hcz26_3 : wc.cell? ⟨gb128, 3, none⟩ = some (.slice A127_3 ((rd_T33 l0 a1).f2).length c127_3) := (blk_cell BK128.out 3).trans rfl; have hfz26_0 := blk_frozen BK128.out 0; have hfz26_1 := blk_frozen BK128.out 1; have hfz26_2 := blk_frozen BK128.out 2; have hfz26_3 := blk_frozen BK128.out 3; go_wp2_with (first | (go_at_call 35; (with_reducible refine (lot_plain.calls kj11 ((rd_T33 l0 a1).f1.f0) ((rd_T33 l0 a1).f1.f1) true _ A19.out).mono ?_); rintro e w27 ⟨rfl, hb⟩; have n0_ := Aside0.mk (blk_below (bG BK128.out) hb); have n1_ := Aside0.mk (below_step (eG HB.out) hb); clear BK128; clear HB; have BK128 := n0_; have HB := n1_; clear n0_ n1_; (try clear hb); (try clear hb2); (try clear hk); (try clear hi); have hcz28_0 : w27.cell? ⟨gb128, 0, none⟩ = some (.int .i64 ((rd_T33 l0 a1).f0)) := (blk_cell BK128.out 0).trans rfl; have hcz28_1 : w27.cell? ⟨gb128, 1, none⟩ = some (.int .i64 ((rd_T33 l0 a1).f1.f0)) := (blk_cell BK128.out 1).trans rfl; have hcz28_2 : w27.cell? ⟨gb128, 2, none⟩ = some (.int .i64 ((rd_T33 l0 a1).f1.f1)) := (blk_cell BK128.out 2).trans rfl; have hcz28_3 : w27.cell? ⟨gb128, 3, none⟩ = some (.slice A127_3 ((rd_T33 l0 a1).f2).length c127_3) := (blk_cell BK128.out 3).trans rfl; have hfz28_0 := blk_frozen BK128.out 0; have hfz28_1 := blk_frozen BK128.out 1; have hfz28_2 := blk_frozen BK128.out 2; have hfz28_3 := blk_frozen BK128.out 3) | (go_at_call 58; (with_reducible refine (lot_shares.calls kj11 ((rd_T33 l0 a1).f0) ((rd_T33 l0 a1).f1.f0) ((rd_T33 l0 a1).f1.f1) _ _ ((rd_T33 l0 a1).f2) t131 _ ?side1 ?side2 A25.out).mono ?_); (case side1 => repeat (first | exact (Kd.C_below HR127_3.out HB.out) | (with_reducible refine Kd.C_alloc ?_ _) | (with_reducible refine Kd.C_drewN ?_ _) | (with_reducible refine Kd.C_drew ?_))); (case side2 => exact HC127_3.out); rintro e w29 ⟨rfl, hb⟩; have n0_ := Aside0.mk (blk_below (bG BK128.out) hb); have n1_ := Aside0.mk (below_step (eG HB.out) hb); clear BK128; clear HB; have BK128 := n0_; have HB := n1_; clear n0_ n1_; (try clear hb); (try clear hb2); (try clear hk); (try clear hi)))
           repeat (go_quiet (first | (go_at_call 35; (with_reducible refine (lot_plain.calls kj11 ((rd_T33 l0 a1).f1.f0) ((rd_T33 l0 a1).f1.f1) true _ A19.out).mono ?_); rintro e w27 ⟨rfl, hb⟩; have n0_ := Aside0.mk (blk_below (bG BK128.out) hb); have n1_ := Aside0.mk (below_step (eG HB.out) hb); clear BK128; clear HB; have BK128 := n0_; have HB := n1_; clear n0_ n1_; (try clear hb); (try clear hb2); (try clear hk); (try clear hi); have hcz28_0 : w27.cell? ⟨gb128, 0, none⟩ = some (.int .i64 ((rd_T33 l0 a1).f0)) := (blk_cell BK128.out 0).trans rfl; have hcz28_1 : w27.cell? ⟨gb128, 1, none⟩ = some (.int .i64 ((rd_T33 l0 a1).f1.f0)) := (blk_cell BK128.out 1).trans rfl; have hcz28_2 : w27.cell? ⟨gb128, 2, none⟩ = some (.int .i64 ((rd_T33 l0 a1).f1.f1)) := (blk_cell BK128.out 2).trans rfl; have hcz28_3 : w27.cell? ⟨gb128, 3, none⟩ = some (.slice A127_3 ((rd_T33 l0 a1).f2).length c127_3) := (blk_cell BK128.out 3).trans rfl; have hfz28_0 := blk_frozen BK128.out 0; have hfz28_1 := blk_frozen BK128.out 1; have hfz28_2 := blk_frozen BK128.out 2; have hfz28_3 := blk_frozen BK128.out 3) | (go_at_call 58; (with_reducible refine (lot_shares.calls kj11 ((rd_T33 l0 a1).f0) ((rd_T33 l0 a1).f1.f0) ((rd_T33 l0 a1).f1.f1) _ _ ((rd_T33 l0 a1).f2) t131 _ ?side1 ?side2 A25.out).mono ?_); (case side1 => repeat (first | exact (Kd.C_below HR127_3.out HB.out) | (with_reducible refine Kd.C_alloc ?_ _) | (with_reducible refine Kd.C_drewN ?_ _) | (with_reducible refine Kd.C_drew ?_))); (case side2 => exact HC127_3.out); rintro e w29 ⟨rfl, hb⟩; have n0_ := Aside0.mk (blk_below (bG BK128.out) hb); have n1_ := Aside0.mk (below_step (eG HB.out) hb); clear BK128; clear HB; have BK128 := n0_; have HB := n1_; clear n0_ n1_; (try clear hb); (try clear hb2); (try clear hk); (try clear hi))); try go_wp2_with (first | (go_at_call 35; (with_reducible refine (lot_plain.calls kj11 ((rd_T33 l0 a1).f1.f0) ((rd_T33 l0 a1).f1.f1) true _ A19.out).mono ?_); rintro e w27 ⟨rfl, hb⟩; have n0_ := Aside0.mk (blk_below (bG BK128.out) hb); have n1_ := Aside0.mk (below_step (eG HB.out) hb); clear BK128; clear HB; have BK128 := n0_; have HB := n1_; clear n0_ n1_; (try clear hb); (try clear hb2); (try clear hk); (try clear hi); have hcz28_0 : w27.cell? ⟨gb128, 0, none⟩ = some (.int .i64 ((rd_T33 l0 a1).f0)) := (blk_cell BK128.out 0).trans rfl; have hcz28_1 : w27.cell? ⟨gb128, 1, none⟩ = some (.int .i64 ((rd_T33 l0 a1).f1.f0)) := (blk_cell BK128.out 1).trans rfl; have hcz28_2 : w27.cell? ⟨gb128, 2, none⟩ = some (.int .i64 ((rd_T33 l0 a1).f1.f1)) := (blk_cell BK128.out 2).trans rfl; have hcz28_3 : w27.cell? ⟨gb128, 3, none⟩ = some (.slice A127_3 ((rd_T33 l0 a1).f2).length c127_3) := (blk_cell BK128.out 3).trans rfl; have hfz28_0 := blk_frozen BK128.out 0; have hfz28_1 := blk_frozen BK128.out 1; have hfz28_2 := blk_frozen BK128.out 2; have hfz28_3 := blk_frozen BK128.out 3) | (go_at_call 58; (with_reducible refine (lot_shares.calls kj11 ((rd_T33 l0 a1).f0) ((rd_T33 l0 a1).f1.f0) ((rd_T33 l0 a1).f1.f1) _ _ ((rd_T33 l0 a1).f2) t131 _ ?side1 ?side2 A25.out).mono ?_); (case side1 => repeat (first | exact (Kd.C_below HR127_3.out HB.out) | (with_reducible refine Kd.C_alloc ?_ _) | (with_reducible refine Kd.C_drewN ?_ _) | (with_reducible refine Kd.C_drew ?_))); (case side2 => exact HC127_3.out); rintro e w29 ⟨rfl, hb⟩; have n0_ := Aside0.mk (blk_below (bG BK128.out) hb); have n1_ := Aside0.mk (below_step (eG HB.out) hb); clear BK128; clear HB; have BK128 := n0_; have HB := n1_; clear n0_ n1_; (try clear hb); (try clear hb2); (try clear hk); (try clear hi))))
           go_ret
           exact ⟨by first | rfl | (simp [errW_none, errW_some] <;> rfl) | (simp [*, errW_none, errW_some] <;> rfl), eG HB.out⟩
         ·
          replace c20 := Bool.eq_false_iff.mpr c20; subst c20; replace H : (some 1) = some r := by rw [if_neg (show ¬ (false = true) by decide)] at H; exact H
          obtain rfl := Option.some.inj H; have hcz30_0 : wc.cell? ⟨gb128, 0, none⟩ = some (.int .i64 ((rd_T33 l0 a1).f0)) := (blk_cell BK128.out 0).trans rfl; have hcz30_1 : wc.cell? ⟨gb128, 1, none⟩ = some (.int .i64 ((rd_T33 l0 a1).f1.f0)) := (blk_cell BK128.out 1).trans rfl; have hcz30_2 : wc.cell? ⟨gb128, 2, none⟩ = some (.int .i64 ((rd_T33 l0 a1).f1.f1)) := (blk_cell BK128.out 2).trans rfl; have hcz30_3 : wc.cell? ⟨gb128, 3, none⟩ = some (.slice A127_3 ((rd_T33 l0 a1).f2).length c127_3) := (blk_cell BK128.out 3).trans rfl; have hfz30_0 := blk_frozen BK128.out 0; have hfz30_1 := blk_frozen BK128.out 1; have hfz30_2 := blk_frozen BK128.out 2; have hfz30_3 := blk_frozen BK128.out 3; go_wp2_with (first | (go_at_call 35; (with_reducible refine (lot_plain.calls kj11 ((rd_T33 l0 a1).f1.f0) ((rd_T33 l0 a1).f1.f1) false _ A19.out).mono ?_); rintro e w31 ⟨rfl, hb⟩; have n0_ := Aside0.mk (blk_below (bG BK128.out) hb); have n1_ := Aside0.mk (below_step (eG HB.out) hb); clear BK128; clear HB; have BK128 := n0_; have HB := n1_; clear n0_ n1_; (try clear hb); (try clear hb2); (try clear hk); (try clear hi)))
          repeat (go_quiet (first | (go_at_call 35; (with_reducible refine (lot_plain.calls kj11 ((rd_T33 l0 a1).f1.f0) ((rd_T33 l0 a1).f1.f1) false _ A19.out).mono ?_); rintro e w31 ⟨rfl, hb⟩; have n0_ := Aside0.mk (blk_below (bG BK128.out) hb); have n1_ := Aside0.mk (below_step (eG HB.out) hb); clear BK128; clear HB; have BK128 := n0_; have HB := n1_; clear n0_ n1_; (try clear hb); (try clear hb2); (try clear hk); (try clear hi))); try go_wp2_with (first | (go_at_call 35; (with_reducible refine (lot_plain.calls kj11 ((rd_T33 l0 a1).f1.f0) ((rd_T33 l0 a1).f1.f1) false _ A19.out).mono ?_); rintro e w31 ⟨rfl, hb⟩; have n0_ := Aside0.mk (blk_below (bG BK128.out) hb); have n1_ := Aside0.mk (below_step (eG HB.out) hb); clear BK128; clear HB; have BK128 := n0_; have HB := n1_; clear n0_ n1_; (try clear hb); (try clear hb2); (try clear hk); (try clear hi))))
          go_ret
          exact ⟨by first | rfl | (simp [errW_none, errW_some] <;> rfl) | (simp [*, errW_none, errW_some] <;> rfl), eG HB.out⟩
  · rw [if_neg c4] at H; exact absurd H (by simp)
 · rw [if_neg c3] at H; exact absurd H (by simp)
def lot_Check.l0 : Nat → List (S33) → Int → Int → Option (Int × Int)
 | 0, _, _, _ => none
 | k + 1, x0, x10, x11 => if x11 < x10 then ((lot_fault.f k x0 x11).bind fun t132 => (if t132 = 0 then (lot_Check.l0 k x0 x10 (wrap64 (x11 + 1))) else (some (x11, t132)))) else (some ((-1), 0))
def lot_Check.f (k : Nat) (l0 : List (S33)) : Option (Int × Int) := if (l0.length : Int) > 32 then (some ((-1), 8)) else (lot_Check.l0 k l0 (l0.length : Int) 0)
set_option maxHeartbeats 8000000 in
set_option maxRecDepth 100000 in
theorem lot_Check.calls (k : Nat) (A0 : Option Addr) (c0 : Nat) (l0 : List (S33)) (r1 : Int) (r2 : Int) (w : World) (hr0 : Kd.C k33 w A0 l0.length l0) (hc0 : l0.length ≤ c0) (h : lot_Check.f k l0 = some (r1, r2)) :
  Calls Tryd.prog 14 #[.slice A0 l0.length c0] w fun e w' => e = .returned (.tuple #[.int .i64 r1, .int .i64 r2]) ∧ Below w.heap.size w w' := by
 have HR0 := Aside0.mk hr0; have HC0 := Aside0.mk hc0; clear hr0 hc0; have HB := Aside0.mk (Below.refl w.heap.size w); have H : (if (l0.length : Int) > 32 then (some ((-1), 8)) else (lot_Check.l0 k l0 (l0.length : Int) 0)) = some (r1, r2) := h; clear h; by_cases c2 : (l0.length : Int) > 32
 ·
  rw [if_pos c2] at H; have c2b0 : decide (32 < (l0.length : Int)) = true := decide_eq_true c2; have c2b1 : decide (32 < l0.length) = true := decide_eq_true (by omega); clear c2; simp only [Option.some.injEq, Prod.mk.injEq] at H; obtain ⟨rfl, rfl⟩ := H; go_enter Tryd.func14, Tryd.ntmps14
  go_wp2; go_ret2
  exact ⟨by first | rfl | (simp [errW_none, errW_some] <;> rfl) | (simp [*, errW_none, errW_some] <;> rfl), eG HB.out⟩
 ·
  rw [if_neg c2] at H; have c2b0 : decide (32 < (l0.length : Int)) = false := decide_eq_false c2; have c2b1 : decide (32 < l0.length) = false := decide_eq_false (by omega); clear c2; have H' := Aside0.mk H; clear H; go_enter Tryd.func14, Tryd.ntmps14
  go_wp2; go_loopg [11] k (fun kq v11 w' => ∃ (x11_1 : Int), v11 = .int .i64 x11_1 ∧ Aside0 (lot_Check.l0 kq l0 (l0.length : Int) x11_1 = some (r1, r2)) ∧ Aside0 (kq ≤ k) ∧ Aside0 (Below w.heap.size w w'))
  case atStart => exact ⟨(0), (by first | rfl | (simp; done) | (simp [*]; done)), H', ⟨Nat.le_refl _⟩, ⟨eG HB.out⟩⟩
  case round =>
   clear H'; try clear c1
   try clear c2
   try clear c2b0
   try clear c2b1
   try clear p2
   obtain ⟨x11_1, rfl, HA, HK1, HB⟩ := hrel
   cases gk with
   | zero => exact absurd HA.out (by simp [lot_Check.l0])
   | succ k1 =>
    have H := HA.out; clear HA; simp only [lot_Check.l0] at H; by_cases c3 : x11_1 < (l0.length : Int)
    ·
     rw [if_pos c3] at H; have c3b0 : decide (x11_1 < (l0.length : Int)) = true := decide_eq_true c3; clear c3; replace H := Option.bind_eq_some_iff.mp H; obtain ⟨t132, A40, H⟩ := H; replace H : (if t132 = 0 then (lot_Check.l0 k1 l0 (l0.length : Int) (wrap64 (x11_1 + 1))) else (some (x11_1, t132))) = some (r1, r2) := H; have A4 := Aside0.mk A40; clear A40; by_cases c5 : t132 = 0
     ·
      rw [if_pos c5] at H; have c5b0 : (t132 == 0) = true := beq_iff_eq.mpr c5; have c5b1 : (t132 != 0) = false := bne_eq_false_iff_eq.mpr c5; clear c5; have H' := Aside0.mk H; clear H; go_wp2_with (first | ((with_reducible refine gate_callee (f := 36) rfl ?_); refine goesL_ (some 16) rfl rfl Tryd.func36 (by kernel_rfl) rfl #[.slice A0 l0.length c0, .int .i64 x11_1] rfl (by (try simp only [List.map_toArray, List.map_cons, List.map_nil]); first | done | rfl | (simp only [List.length_drop, List.length_take]; rfl)) ?_; (with_reducible refine (lot_fault.calls k1 _ _ l0 x11_1 t132 _ ?side1 ?side2 A4.out).mono ?_); (case side1 => repeat (first | exact (Kd.C_below HR0.out HB.out) | (with_reducible refine Kd.C_alloc ?_ _) | (with_reducible refine Kd.C_drewN ?_ _) | (with_reducible refine Kd.C_drew ?_))); (case side2 => exact HC0.out); rintro e w6 ⟨rfl, hb⟩; refine ⟨_, rfl, ?_⟩; have n0_ := Aside0.mk (below_step (eG HB.out) hb); clear HB; have HB := n0_; clear n0_; (try clear hb); (try clear hb2); (try clear hk); (try clear hi)))
      go_roundg k1
      case measure => have := HK1.out; omega
      case rel => exact ⟨(wrap64 (x11_1 + 1)), (by first | rfl | (simp; done) | (simp [*]; done)), H', ⟨by have := HK1.out; omega⟩, ⟨eG HB.out⟩⟩
     ·
      rw [if_neg c5] at H; have c5b0 : (t132 == 0) = false := beq_eq_false_iff_ne.mpr c5; have c5b1 : (t132 != 0) = true := bne_iff_ne.mpr c5; simp only [Option.some.injEq, Prod.mk.injEq] at H; obtain ⟨rfl, rfl⟩ := H; go_wp2_with (first | ((with_reducible refine gate_callee (f := 36) rfl ?_); refine goesL_ (some 16) rfl rfl Tryd.func36 (by kernel_rfl) rfl #[.slice A0 l0.length c0, .int .i64 x11_1] rfl (by (try simp only [List.map_toArray, List.map_cons, List.map_nil]); first | done | rfl | (simp only [List.length_drop, List.length_take]; rfl)) ?_; (with_reducible refine (lot_fault.calls k1 _ _ l0 x11_1 t132 _ ?side1 ?side2 A4.out).mono ?_); (case side1 => repeat (first | exact (Kd.C_below HR0.out HB.out) | (with_reducible refine Kd.C_alloc ?_ _) | (with_reducible refine Kd.C_drewN ?_ _) | (with_reducible refine Kd.C_drew ?_))); (case side2 => exact HC0.out); rintro e w7 ⟨rfl, hb⟩; refine ⟨_, rfl, ?_⟩; have n0_ := Aside0.mk (below_step (eG HB.out) hb); clear HB; have HB := n0_; clear n0_; (try clear hb); (try clear hb2); (try clear hk); (try clear hi)))
      go_ret2
      exact ⟨by first | rfl | (simp [errW_none, errW_some] <;> rfl) | (simp [*, errW_none, errW_some] <;> rfl), eG HB.out⟩
    ·
     rw [if_neg c3] at H; have c3b0 : decide (x11_1 < (l0.length : Int)) = false := decide_eq_false c3; clear c3; simp only [Option.some.injEq, Prod.mk.injEq] at H; obtain ⟨rfl, rfl⟩ := H; go_wp2; go_ret2
     exact ⟨by first | rfl | (simp [errW_none, errW_some] <;> rfl) | (simp [*, errW_none, errW_some] <;> rfl), eG HB.out⟩
end Go.Proofs.YtgjoenoknknoiaaDoor.Pr
namespace Go.Proofs
open Go.Shelf
def Tryd.lays169_ren : Go.Shelf.Ren := ⟨fun | 169 => 51 | n => n, fun | 70 => 66 | 9 => 9 | 0 => 0 | 72 => 69 | 37 => 67 | 127 => 88 | 3 => 3 | 5 => 5 | n => n, fun | n => n⟩
theorem Tryd.lays169 : Go.Proofs.Lays.n169 Tryd.prog Tryd.lays169_ren := {
  mixed := by kernel_rfl
  f169 := Tryd.func51.trans (congrArg some (by kernel_rfl))
  t0 := Tryd.underlying0
  a0 := Tryd.isAgg0
  z0 := Tryd.sizeOf0
  v0 := Tryd.zeroValue0
  t3 := Tryd.underlying3
  a3 := Tryd.isAgg3
  z3 := Tryd.sizeOf3
  v3 := Tryd.zeroValue3
  t9 := Tryd.underlying9
  a9 := Tryd.isAgg9
  z9 := Tryd.sizeOf9
  v9 := Tryd.zeroValue9
  t37 := Tryd.underlying67
  a37 := Tryd.isAgg67
  z37 := Tryd.sizeOf67
  v37 := Tryd.zeroValue67
  t70 := Tryd.underlying66
  a70 := Tryd.isAgg66
  z70 := Tryd.sizeOf66
  v70 := Tryd.zeroValue66
  t72 := Tryd.underlying69
  a72 := Tryd.isAgg69
  z72 := Tryd.sizeOf69
  v72 := Tryd.zeroValue69
  t127 := Tryd.underlying88
  a127 := Tryd.isAgg88
  z127 := Tryd.sizeOf88
  v127 := Tryd.zeroValue88 }
theorem Tryd.Builder_Extra_169 : Builder.Extra Tryd.prog Tryd.lays169_ren := {
  sizeBuilder := by kernel_rfl
  liesBuilder := by kernel_rfl
  t5 := Tryd.underlying5
  a5 := Tryd.isAgg5
  z5 := Tryd.sizeOf5
  v5 := Tryd.zeroValue5
  infoByte := by kernel_rfl
  cellsByte := by kernel_rfl
  sizeByte := by kernel_rfl
  neB5 := by decide }
open Go.RowKit in
/-- (*strings.Builder).String: "String returns the accumulated string.": WHATEVER THE BUILDER HOLDS; THE FORM '_k': OVER 'Lib.IsBuilderF' (a builder that 'String()' may have read), AND WITH THE FRAME THAT REACHES ABOVE THE BUILDER: 'Lib.OthersKept': every block that is not b and is no row of uint8's stands as it stood: the iterator of a range among them. (LAID: no walk: one application.) -/
theorem Tryd.Builder_String_any_k (B b : Nat) (l : List UInt8) (w : World) (h : Lib.IsBuilderF 69 5 B b (Lib.byteCells l) w) (hBw : B ≤ w.heap.size) :
    Calls Tryd.prog 51 #[.pointer (some ⟨b, 0, none⟩)] w fun e w' => e = .returned (.string ⟨l.toArray⟩) ∧ (Lib.IsBuilderF 69 5 B b (Lib.byteCells l) w' ∧ Below B w w' ∧ Lib.OthersKept 5 (some b) w w') := Any.Builder_String_any_k Tryd.lays169 Tryd.Builder_Extra_169 B b l w h hBw
def Tryd.laysM171_ren : Go.Shelf.Ren := ⟨fun | 171 => 50 | 243 => 63 | 246 => 74 | 283 => 79 | 284 => 80 | 285 => 81 | 286 => 82 | 129 => 93 | 317 => 92 | 318 => 94 | 319 => 95 | 320 => 96 | 337 => 107 | 338 => 108 | n => n, fun | 3 => 3 | 9 => 9 | 2 => 2 | 4 => 4 | 171 => 105 | 0 => 0 | 53 => 106 | 37 => 67 | 5 => 5 | 173 => 109 | 212 => 116 | 51 => 117 | 20 => 20 | 213 => 118 | 46 => 87 | 232 => 138 | 233 => 139 | n => n, fun | 17 => 1 | 18 => 4 | 19 => 5 | n => n⟩
theorem Tryd.laysM171 : Go.Proofs.LaysM.n171 Tryd.prog Tryd.laysM171_ren := {
  mixed := by kernel_rfl
  f129 := Tryd.func93.trans (congrArg some (by kernel_rfl))
  f171 := Tryd.func50.trans (congrArg some (by kernel_rfl))
  f243 := Tryd.func63.trans (congrArg some (by kernel_rfl))
  f246 := Tryd.func74.trans (congrArg some (by kernel_rfl))
  f283 := Tryd.func79.trans (congrArg some (by kernel_rfl))
  f284 := Tryd.func80.trans (congrArg some (by kernel_rfl))
  f285 := Tryd.func81.trans (congrArg some (by kernel_rfl))
  f286 := Tryd.func82.trans (congrArg some (by kernel_rfl))
  f317 := Tryd.func92.trans (congrArg some (by kernel_rfl))
  f318 := Tryd.func94.trans (congrArg some (by kernel_rfl))
  f319 := Tryd.func95.trans (congrArg some (by kernel_rfl))
  f320 := Tryd.func96.trans (congrArg some (by kernel_rfl))
  f337 := Tryd.func107.trans (congrArg some (by kernel_rfl))
  f338 := Tryd.func108.trans (congrArg some (by kernel_rfl))
  t0 := Tryd.underlying0
  a0 := Tryd.isAgg0
  z0 := Tryd.sizeOf0
  v0 := Tryd.zeroValue0
  t2 := Tryd.underlying2
  a2 := Tryd.isAgg2
  z2 := Tryd.sizeOf2
  v2 := Tryd.zeroValue2
  t3 := Tryd.underlying3
  a3 := Tryd.isAgg3
  z3 := Tryd.sizeOf3
  v3 := Tryd.zeroValue3
  t4 := Tryd.underlying4
  a4 := Tryd.isAgg4
  z4 := Tryd.sizeOf4
  v4 := Tryd.zeroValue4
  t5 := Tryd.underlying5
  a5 := Tryd.isAgg5
  z5 := Tryd.sizeOf5
  v5 := Tryd.zeroValue5
  t9 := Tryd.underlying9
  a9 := Tryd.isAgg9
  z9 := Tryd.sizeOf9
  v9 := Tryd.zeroValue9
  t20 := Tryd.underlying20
  a20 := Tryd.isAgg20
  z20 := Tryd.sizeOf20
  v20 := Tryd.zeroValue20
  t37 := Tryd.underlying67
  a37 := Tryd.isAgg67
  z37 := Tryd.sizeOf67
  v37 := Tryd.zeroValue67
  t46 := Tryd.underlying87
  a46 := Tryd.isAgg87
  z46 := Tryd.sizeOf87
  v46 := Tryd.zeroValue87
  t51 := Tryd.underlying117
  a51 := Tryd.isAgg117
  z51 := Tryd.sizeOf117
  v51 := Tryd.zeroValue117
  t53 := Tryd.underlying106
  a53 := Tryd.isAgg106
  z53 := Tryd.sizeOf106
  v53 := Tryd.zeroValue106
  t171 := Tryd.underlying105
  a171 := Tryd.isAgg105
  z171 := Tryd.sizeOf105
  v171 := Tryd.zeroValue105
  t173 := Tryd.underlying109
  a173 := Tryd.isAgg109
  z173 := Tryd.sizeOf109
  v173 := Tryd.zeroValue109
  t212 := Tryd.underlying116
  a212 := Tryd.isAgg116
  z212 := Tryd.sizeOf116
  v212 := Tryd.zeroValue116
  t213 := Tryd.underlying118
  a213 := Tryd.isAgg118
  z213 := Tryd.sizeOf118
  t232 := Tryd.underlying138
  a232 := Tryd.isAgg138
  z232 := Tryd.sizeOf138
  v232 := Tryd.zeroValue138
  t233 := Tryd.underlying139
  a233 := Tryd.isAgg139
  z233 := Tryd.sizeOf139
  v233 := Tryd.zeroValue139
  g17 := by kernel_rfl
  g18 := by kernel_rfl
  g19 := by kernel_rfl
  i0 := by kernel_rfl
  i2 := by kernel_rfl
  i3 := by kernel_rfl
  i4 := by kernel_rfl
  i5 := by kernel_rfl
  i9 := by kernel_rfl
  i20 := by kernel_rfl
  i37 := by kernel_rfl
  i46 := by kernel_rfl
  i51 := by kernel_rfl
  i53 := by kernel_rfl
  i171 := by kernel_rfl
  i173 := by kernel_rfl
  i212 := by kernel_rfl
  i232 := by kernel_rfl
  i233 := by kernel_rfl
  m17 := by kernel_rfl
  m18 := by kernel_rfl
  m19 := by kernel_rfl }
open Go.RowKit Go.Sort Go.Lib in
/-- strconv.Itoa: "Itoa is equivalent to FormatInt(int64(i), 10).": i's DECIMAL NUMERAL ('Lib.itoa': a '-' where i is negative, then the digits), FOR EVERY int. The world behind the call: the world before it, new blocks behind the heap (the library's 'var a [24]byte'), draws. (LAID: no walk: one application.) -/
theorem Tryd.strconv_Itoa (n : Int) (h0 : -9223372036854775808 ≤ n) (h1 : n ≤ 9223372036854775807) (w : World) (htab : Lib.TabIs Tryd.prog w "internal/strconv.uint64pow10" .u64 Lib.pow10Tab) :
    Calls Tryd.prog 50 #[.int .i64 n] w fun e w' => e = .returned (.string ⟨(Lib.itoa n).toArray⟩) ∧ ∃ k os, w' = grow (w.drewN k) os := Any.strconv_Itoa Tryd.laysM171 n h0 h1 w htab
end Go.Proofs
namespace Go.Proofs.YtgjoenoknknoiaaDoor.X
open Go Go.Shelf Go.RowKit
set_option maxHeartbeats 2000000 in
set_option maxRecDepth 100000 in
theorem copyCheck_used (b : Nat) (w : World) (h0 : w.cell? ⟨b, 0, none⟩ = some (.pointer (some ⟨b, 0, none⟩))) :
    Calls Tryd.prog 62 #[.pointer (some ⟨b, 0, none⟩)] w fun e w' => e = .returned (.tuple #[]) ∧ w' = w := by
  obtain ⟨j, hj, hjs⟩ : ∃ j, Tryd.prog.info? 69 = some j ∧ j.size = 2 := Option.map_eq_some_iff.1 (by kernel_rfl : (Tryd.prog.info? 69).map (·.size) = some 2)
  go_enter Tryd.func62, Tryd.ntmps62
  go_wp2
  rw [Lib.run_neq_ptr_same w _ Tryd.underlying66 hj]
  go_wp2
  go_end0
  exact ⟨rfl, rfl⟩
set_option maxHeartbeats 2000000 in
set_option maxRecDepth 100000 in
theorem copyCheck_fresh (b : Nat) (w : World) (h0 : w.cell? ⟨b, 0, none⟩ = some (.pointer none)) (hsh : w.shape? b = some (69, 2)) (hfz : w.frozen? ⟨b, 0, none⟩ = false) :
    Calls Tryd.prog 62 #[.pointer (some ⟨b, 0, none⟩)] w fun e w' => e = .returned (.tuple #[]) ∧ w' = w.setCell ⟨b, 0, none⟩ (.pointer (some ⟨b, 0, none⟩)) := by
  obtain ⟨j, hj, hjs⟩ : ∃ j, Tryd.prog.info? 69 = some j ∧ j.size = 2 := Option.map_eq_some_iff.1 (by kernel_rfl : (Tryd.prog.info? 69).map (·.size) = some 2)
  go_enter Tryd.func62, Tryd.ntmps62
  go_wp2
  rw [Lib.run_to_unsafe w ⟨b, 0, none⟩ Tryd.underlying66 Tryd.underlying98 hj (by rw [hjs]; decide) hsh (Nat.zero_lt_succ 1)]
  simp only [Result.andThen]
  rw [Oper.upon_value]
  go_wp2
  rw [run_callFunc_extern Tryd.func73 (by kernel_rfl) (by kernel_rfl) (by kernel_rfl) (e := Extern.AbiNoEscape.same) (by kernel_rfl)]
  rw [Lib.run_noEscape]
  simp only [Result.andThen]
  rw [Oper.upon_value]
  go_wp2
  rw [Lib.run_from_unsafe w ⟨b, 0, none⟩ Tryd.underlying98 Tryd.underlying66 hj hsh (by kernel_rfl)]
  simp only [Result.andThen]
  rw [Oper.upon_value]
  go_wp2
  go_end0
  exact ⟨rfl, rfl⟩
theorem copyCheck (B b : Nat) (bs : List Value) (w : World) (h : Lib.IsBuilderF 69 5 B b bs w) :
    Calls Tryd.prog 62 #[.pointer (some ⟨b, 0, none⟩)] w fun e w' => e = .returned (.tuple #[]) ∧ (Lib.BuilderAtF 69 5 B b (.pointer (some ⟨b, 0, none⟩)) bs w' ∧ Below B w w' ∧ Lib.OthersKept 5 (some b) w w') := by
  rcases h with h | h
  · refine (copyCheck_fresh b w h.cell0 h.shape h.frozen0).mono ?_
    rintro e w' ⟨rfl, rfl⟩
    exact ⟨rfl, h.used _, (Below.refl B w).setCell (p := ⟨b, 0, none⟩) h.1 _, (Lib.OthersKept.refl _ _ w).setCell ⟨b, 0, none⟩ rfl _⟩
  · refine (copyCheck_used b w h.cell0).mono ?_
    rintro e w' ⟨rfl, rfl⟩
    exact ⟨rfl, h, Below.refl B _, Lib.OthersKept.refl _ _ _⟩
set_option maxHeartbeats 4000000 in
set_option maxRecDepth 100000 in
theorem writeString (B b : Nat) (bs : List Value) (s : ByteArray) (w : World) (h : Lib.IsBuilderF 69 5 B b bs w) (hlen : bs.length + s.size ≤ 140737488355328) (hBw : B ≤ w.heap.size) :
    Calls Tryd.prog 49 #[.pointer (some ⟨b, 0, none⟩), .string s] w fun e w' => e = .returned (.tuple #[.int .i64 s.size, .nilIface]) ∧ (Lib.IsBuilderF 69 5 B b (bs ++ Lib.strCells s) w' ∧ Below B w w' ∧ Lib.OthersKept 5 (some b) w w') := by
  obtain ⟨i0, hi, hz0, hz1, hz2⟩ := info_parts (by kernel_rfl : (Tryd.prog.info? 5).map (fun i => (i.zero, i.size, i.bytes)) = some (some (.int .u8 0), 1, 1))
  go_enter Tryd.func49, Tryd.ntmps49
  go_wp2_with (go_at_call 62; refine (copyCheck B b bs _ h).mono ?_)
  rintro e w1 ⟨rfl, h1, hb1, hk1⟩
  obtain ⟨hB, v, hbk, hown, hne⟩ := h1
  have c0 : w1.cell? ⟨b, 0, none⟩ = some (.pointer (some ⟨b, 0, none⟩)) := by rw [Lib.cell_of_heap hbk]; rfl
  have c1 : w1.cell? ⟨b, 1, none⟩ = some v := by rw [Lib.cell_of_heap hbk]; rfl
  go_wp2_with (at_builtin; refine Lib.wpList_append_own_stringF _ rfl _ _ 67 9 rfl B 5 i0 Tryd.underlying67 Tryd.underlying9 hi hz0 hz1 hz2 _ _ _ rfl hown s rfl ?c3 ?c4 ?c5 ?_)
  case c3 => unfold maxLen; omega
  case c4 => omega
  case c5 => have := hb1.size; omega
  intro v' w2 hown' hgrow _
  have hlt : b < w1.heap.size := by
    rcases Nat.lt_or_ge b w1.heap.size with h' | h'
    · exact h'
    · simp [Array.getElem?_eq_none h'] at hbk
  have hb2 : w2.heap[b]? = some (.cells #[.pointer (some ⟨b, 0, none⟩), v] 69 (0, 0)) := by
    rw [hgrow.block b hlt (fun e => hne e.symm)]
    exact hbk
  have d0 : w2.cell? ⟨b, 0, none⟩ = some (.pointer (some ⟨b, 0, none⟩)) := by rw [Lib.cell_of_heap hb2]; rfl
  have d1 : w2.cell? ⟨b, 1, none⟩ = some v := by rw [Lib.cell_of_heap hb2]; rfl
  have f1 : w2.frozen? ⟨b, 1, none⟩ = false := Lib.frozen_of_heap hb2 1
  obtain ⟨ao, n', cap, rfl⟩ : ∃ ao n' cap, v' = .slice ao n' cap := by
    rcases hown'.2 with ⟨hv, _⟩ | ⟨g, cap, cur, fz, hv, _⟩
    · exact ⟨_, _, _, hv⟩
    · exact ⟨_, _, _, hv⟩
  go_wp2
  go_ret2
  refine ⟨rfl, ?_, ?_, (hk1.grown hgrow (Lib.ownsRowF_kind hown)).setCell ⟨b, 1, none⟩ rfl _⟩
  · exact Or.inr (Lib.BuilderAtF.put (T := 69) (e := 5) hB hb2 (bs' := bs ++ Lib.strCells s) (by simpa [Lib.strCells_length] using hown') (by decide))
  · exact (hb1.grown hgrow (by have := hb1.size; omega) (fun k hk => (hown.lt k hk).1)).setCell (p := ⟨b, 1, none⟩) hB _
theorem bld_heap {T e : TypeId} {B b : Nat} {bs : List Value} {W W2 : World} (h : Lib.IsBuilderF T e B b bs W) (hk : ∀ i, i < W.heap.size → W2.heap[i]? = W.heap[i]?) : Lib.IsBuilderF T e B b bs W2 := by
  have lt : ∀ {i : Nat} {o : Obj}, W.heap[i]? = some o → i < W.heap.size := by
    intro i o h
    rcases Nat.lt_or_ge i W.heap.size with h' | h'
    · exact h'
    · simp [Array.getElem?_eq_none h'] at h
  have key : ∀ p, Lib.BuilderAtF T e B b p bs W → Lib.BuilderAtF T e B b p bs W2 := by
    rintro p ⟨hB, v, hb, hown, hne⟩
    refine ⟨hB, v, (hk b (lt hb)).trans hb, ⟨hown.1, ?_⟩, hne⟩
    rcases hown.2 with h | ⟨g, cap, cur, fz, hv, hBg, hg, rest⟩
    · exact .inl h
    · exact .inr ⟨g, cap, cur, fz, hv, hBg, (hk g (lt hg)).trans hg, rest⟩
  exact h.elim (fun x => .inl (key _ x)) (fun x => .inr (key _ x))
theorem bld_below {T e : TypeId} {B b : Nat} {bs : List Value} {W W2 : World} (h : Lib.IsBuilderF T e B b bs W) (hb : Below W.heap.size W W2) : Lib.IsBuilderF T e B b bs W2 := bld_heap h hb.block
theorem bld_size {T e : TypeId} {B b : Nat} {bs : List Value} {W : World} (h : Lib.IsBuilderF T e B b bs W) : B ≤ W.heap.size := by
  have : ∀ p, Lib.BuilderAtF T e B b p bs W → B ≤ W.heap.size := by
    rintro p ⟨hB, v, hb, _⟩
    rcases Nat.lt_or_ge b W.heap.size with h' | h'
    · omega
    · simp [Array.getElem?_eq_none h'] at hb
  exact h.elim (this _) (this _)
theorem others_blk {b g : Nat} {cs : Array Value} {t : TypeId} {w w' : World} (h : Lib.OthersKept 5 (some b) w w') (hg : w.heap[g]? = some (.cells cs t (0, 0))) (hgb : g ≠ b) (ht : t ≠ 5) : w'.heap[g]? = some (.cells cs t (0, 0)) :=
  h g _ hg (fun e => hgb (Option.some.inj e)) (fun _ _ e => by injection e with _ e2 _; exact ht e2)
theorem bld_ne {T e : TypeId} {B b : Nat} {bs : List Value} {W : World} (h : Lib.IsBuilderF T e B b bs W) : W.heap.size ≠ b := by
  have : ∀ p, Lib.BuilderAtF T e B b p bs W → W.heap.size ≠ b := by
    rintro p ⟨hB, v, hb, _⟩ rfl
    simp [Array.getElem?_eq_none (Nat.le_refl W.heap.size)] at hb
  exact h.elim (this _) (this _)
theorem below_mine {B : Nat} {w W W2 : World} (h : Below w.heap.size w W) (k : Below B W W2) (hB : w.heap.size ≤ B) : Below w.heap.size w W2 := h.trans (k.mono hB)
/-- A write, over bytes. -/
theorem writeBytes (B b : Nat) (acc : List UInt8) (s : ByteArray) (w : World) (h : Lib.IsBuilderF 69 5 B b (Lib.byteCells acc) w) (hlen : acc.length + s.size ≤ 140737488355328) :
    Calls Tryd.prog 49 #[.pointer (some ⟨b, 0, none⟩), .string s] w fun e w' => (∃ n : Int, e = .returned (.tuple #[.int .i64 n, .nilIface])) ∧ Lib.IsBuilderF 69 5 B b (Lib.byteCells (acc ++ s.data.toList)) w' ∧ Below B w w' ∧ Lib.OthersKept 5 (some b) w w' := by
  refine (writeString B b (Lib.byteCells acc) s w h (by rw [Lib.byteCells_length]; exact hlen) (bld_size h)).mono ?_
  rintro e w' ⟨rfl, h1, hb, hk⟩
  refine ⟨⟨_, rfl⟩, ?_, hb, hk⟩
  rw [Lib.strCells_eq] at h1
  simpa [Lib.byteCells] using h1
end Go.Proofs.YtgjoenoknknoiaaDoor.X
namespace Go.Proofs.YtgjoenoknknoiaaDoor.X
open Go.RowKit
/-- The decimal numeral of an int. -/
def strconv_Itoa.f (a0 : Int) : Option ByteArray := if -9223372036854775808 ≤ a0 then (if a0 ≤ 9223372036854775807 then some ⟨(Lib.itoa a0).toArray⟩ else none) else none
theorem below_grow (w : World) (q : Nat) (os : Array Obj) : Below w.heap.size w (Sort.grow (w.drewN q) os) :=
  ⟨rfl, rfl, rfl, by show w.heap.size ≤ (w.heap ++ os).size; rw [Array.size_append]; omega, fun i hi => by
    show ((w.drewN q).heap ++ os)[i]? = _
    rw [Array.getElem?_append_left (by show i < w.heap.size; omega)]
    rfl⟩
theorem strconv_Itoa.calls (a0 : Int) (r : ByteArray) (w : World) (hG : GI w) (h : strconv_Itoa.f a0 = some r) :
    Calls Tryd.prog 50 #[.int .i64 a0] w fun e w' => e = .returned (.string r) ∧ Below w.heap.size w w' := by
  unfold strconv_Itoa.f at h
  by_cases h0 : -9223372036854775808 ≤ a0
  · by_cases h1 : a0 ≤ 9223372036854775807
    · rw [if_pos h0, if_pos h1] at h
      obtain rfl := Option.some.inj h
      refine (Tryd.strconv_Itoa a0 h0 h1 w hG).mono ?_
      rintro e w' ⟨rfl, k, os, rfl⟩
      exact ⟨rfl, below_grow w k os⟩
    · rw [if_pos h0, if_neg h1] at h
      cases h
  · rw [if_neg h0] at h
    cases h
end Go.Proofs.YtgjoenoknknoiaaDoor.X
namespace Go.Proofs.YtgjoenoknknoiaaDoor.Pr
open Go.RowKit Go.Proofs.YtgjoenoknknoiaaDoorW.PrintWords Go.Proofs.YtgjoenoknknoiaaDoorW.PrintLast Go.Proofs.YtgjoenoknknoiaaDoorW.PrintMore Go.Proofs.YtgjoenoknknoiaaDoor.X
attribute [local go_sem] max2_int min2_int max_two min_two max_three min_three max_four min_four   -- for this text's walks alone
set_option linter.unusedVariables false
set_option linter.unusedSimpArgs false
def lot_right.f (k : Nat) (l0 : List (S33)) : Option (Bool) := (lot_Check.f k l0).bind fun bt133 => (some (bt133.2 == 0))
set_option maxHeartbeats 8000000 in
set_option maxRecDepth 100000 in
theorem lot_right.calls (k : Nat) (A0 : Option Addr) (c0 : Nat) (l0 : List (S33)) (r : Bool) (w : World) (hr0 : Kd.C k33 w A0 l0.length l0) (hc0 : l0.length ≤ c0) (h : lot_right.f k l0 = some r) :
  Calls Tryd.prog 34 #[.slice A0 l0.length c0] w fun e w' => e = .returned (.bool r) ∧ Below w.heap.size w w' := by
 have HR0 := Aside0.mk hr0; have HC0 := Aside0.mk hc0; clear hr0 hc0; have HB := Aside0.mk (Below.refl w.heap.size w); have H : ((lot_Check.f k l0).bind fun bt133 => (some (bt133.2 == 0))) = some r := h; clear h; replace H := Option.bind_eq_some_iff.mp H; obtain ⟨⟨t133, t134⟩, A20, H⟩ := H; replace H : (some (t134 == 0)) = some r := H; have A2 := Aside0.mk A20; clear A20; obtain rfl := Option.some.inj H; go_enter Tryd.func34, Tryd.ntmps34
 go_wp2_with (first | ((with_reducible refine gate_callee (f := 14) rfl ?_); refine goesL_ (some 7) rfl rfl Tryd.func14 (by kernel_rfl) rfl #[.slice A0 l0.length c0] rfl (by (try simp only [List.map_toArray, List.map_cons, List.map_nil]); first | done | rfl | (simp only [List.length_drop, List.length_take]; rfl)) ?_; (with_reducible refine (lot_Check.calls k _ _ l0 t133 t134 _ ?side1 ?side2 A2.out).mono ?_); (case side1 => repeat (first | exact HR0.out | (with_reducible refine Kd.C_alloc ?_ _) | (with_reducible refine Kd.C_drewN ?_ _) | (with_reducible refine Kd.C_drew ?_))); (case side2 => exact HC0.out); rintro e w3 ⟨rfl, hb⟩; refine ⟨_, rfl, ?_⟩; have n0_ := Aside0.mk (below_step (eG HB.out) hb); clear HB; have HB := n0_; clear n0_; (try clear hb); (try clear hb2); (try clear hk); (try clear hi)))
 go_ret
 exact ⟨by first | rfl | (simp [errW_none, errW_some] <;> rfl) | (simp [*, errW_none, errW_some] <;> rfl), eG HB.out⟩
mutual
def lot_Of.l0 : Nat → Int → Int → List (S33) → Int → Int → Option (Int × Int)
 | 0, _, _, _, _, _ => none
 | k + 1, x1, x6, x22, x23, x24 => if x24 < x23 then (if 0 ≤ x24 then (if x24 < (x22.length : Int) then (lot_Of.l1 k x1 x6 x22 x23 x24 ((rd_T33 x22 x24).f2) (((rd_T33 x22 x24).f2).length : Int) 0) else (none)) else (none)) else (some (x6, 0))
def lot_Of.l1 : Nat → Int → Int → List (S33) → Int → Int → List (S35) → Int → Int → Option (Int × Int)
 | 0, _, _, _, _, _, _, _, _ => none
 | k + 1, x1, x6, x22, x23, x24, x29, x30, x31 => if x31 < x30 then (if 0 ≤ x31 then (if x31 < (x29.length : Int) then (if ((rd_T35 x29 x31).f0) = x1 then (lot_Of.l1 k x1 (wrap64 (x6 + ((rd_T35 x29 x31).f1))) x22 x23 x24 x29 x30 (wrap64 (x31 + 1))) else (lot_Of.l1 k x1 x6 x22 x23 x24 x29 x30 (wrap64 (x31 + 1)))) else (none)) else (none)) else (lot_Of.l0 k x1 x6 x22 x23 (wrap64 (x24 + 1)))
end
def lot_Of.f (k : Nat) (l0 : List (S33)) (a1 : Int) : Option (Int × Int) := (lot_right.f k l0).bind fun t135 => (if t135 = true then (if a1 < 1 then (some (0, 2)) else (if a1 > 1073741824 then (some (0, 2)) else (lot_Of.l0 k a1 0 l0 (l0.length : Int) 0))) else (some (0, 1)))
set_option maxHeartbeats 8000000 in
set_option maxRecDepth 100000 in
theorem lot_Of.calls (k : Nat) (A0 : Option Addr) (c0 : Nat) (l0 : List (S33)) (a1 : Int) (r1 : Int) (r2 : Int) (w : World) (hr0 : Kd.C k33 w A0 l0.length l0) (hc0 : l0.length ≤ c0) (h : lot_Of.f k l0 a1 = some (r1, r2)) :
  Calls Tryd.prog 13 #[.slice A0 l0.length c0, .int .i64 a1] w fun e w' => e = .returned (.tuple #[.int .i64 r1, .int .i64 r2]) ∧ Below w.heap.size w w' := by
 have hu33 := Tryd.underlying33; have hu35 := Tryd.underlying35; have HR0 := Aside0.mk hr0; have HC0 := Aside0.mk hc0; clear hr0 hc0; have HB := Aside0.mk (Below.refl w.heap.size w); have H : ((lot_right.f k l0).bind fun t135 => (if t135 = true then (if a1 < 1 then (some (0, 2)) else (if a1 > 1073741824 then (some (0, 2)) else (lot_Of.l0 k a1 0 l0 (l0.length : Int) 0))) else (some (0, 1)))) = some (r1, r2) := h; clear h; replace H := Option.bind_eq_some_iff.mp H; obtain ⟨t135, A30, H⟩ := H; replace H : (if t135 = true then (if a1 < 1 then (some (0, 2)) else (if a1 > 1073741824 then (some (0, 2)) else (lot_Of.l0 k a1 0 l0 (l0.length : Int) 0))) else (some (0, 1))) = some (r1, r2) := H; have A3 := Aside0.mk A30; clear A30; by_cases c4 : t135 = true
 ·
  subst c4; replace H : (if a1 < 1 then (some (0, 2)) else (if a1 > 1073741824 then (some (0, 2)) else (lot_Of.l0 k a1 0 l0 (l0.length : Int) 0))) = some (r1, r2) := by rw [if_pos rfl] at H; exact H
  by_cases c5 : a1 < 1
  ·
   rw [if_pos c5] at H; have c5b0 : decide (a1 < 1) = true := decide_eq_true c5; clear c5; simp only [Option.some.injEq, Prod.mk.injEq] at H; obtain ⟨rfl, rfl⟩ := H; go_enter Tryd.func13, Tryd.ntmps13
   go_wp2_with (first | ((with_reducible refine gate_callee (f := 34) rfl ?_); refine goesL_ (some 13) rfl rfl Tryd.func34 (by kernel_rfl) rfl #[.slice A0 l0.length c0] rfl (by (try simp only [List.map_toArray, List.map_cons, List.map_nil]); first | done | rfl | (simp only [List.length_drop, List.length_take]; rfl)) ?_; (with_reducible refine (lot_right.calls k _ _ l0 true _ ?side1 ?side2 A3.out).mono ?_); (case side1 => repeat (first | exact HR0.out | (with_reducible refine Kd.C_alloc ?_ _) | (with_reducible refine Kd.C_drewN ?_ _) | (with_reducible refine Kd.C_drew ?_))); (case side2 => exact HC0.out); rintro e w6 ⟨rfl, hb⟩; refine ⟨_, rfl, ?_⟩; have n0_ := Aside0.mk (below_step (eG HB.out) hb); clear HB; have HB := n0_; clear n0_; (try clear hb); (try clear hb2); (try clear hk); (try clear hi)))
   go_ret2
   exact ⟨by first | rfl | (simp [errW_none, errW_some] <;> rfl) | (simp [*, errW_none, errW_some] <;> rfl), eG HB.out⟩
  ·
   rw [if_neg c5] at H; have c5b0 : decide (a1 < 1) = false := decide_eq_false c5; clear c5; by_cases c7 : a1 > 1073741824
   ·
    rw [if_pos c7] at H; have c7b0 : decide (1073741824 < a1) = true := decide_eq_true c7; clear c7; simp only [Option.some.injEq, Prod.mk.injEq] at H; obtain ⟨rfl, rfl⟩ := H; go_enter Tryd.func13, Tryd.ntmps13
    go_wp2_with (first | ((with_reducible refine gate_callee (f := 34) rfl ?_); refine goesL_ (some 13) rfl rfl Tryd.func34 (by kernel_rfl) rfl #[.slice A0 l0.length c0] rfl (by (try simp only [List.map_toArray, List.map_cons, List.map_nil]); first | done | rfl | (simp only [List.length_drop, List.length_take]; rfl)) ?_; (with_reducible refine (lot_right.calls k _ _ l0 true _ ?side1 ?side2 A3.out).mono ?_); (case side1 => repeat (first | exact HR0.out | (with_reducible refine Kd.C_alloc ?_ _) | (with_reducible refine Kd.C_drewN ?_ _) | (with_reducible refine Kd.C_drew ?_))); (case side2 => exact HC0.out); rintro e w8 ⟨rfl, hb⟩; refine ⟨_, rfl, ?_⟩; have n0_ := Aside0.mk (below_step (eG HB.out) hb); clear HB; have HB := n0_; clear n0_; (try clear hb); (try clear hb2); (try clear hk); (try clear hi)))
    go_ret2
    exact ⟨by first | rfl | (simp [errW_none, errW_some] <;> rfl) | (simp [*, errW_none, errW_some] <;> rfl), eG HB.out⟩
   ·
    rw [if_neg c7] at H; have c7b0 : decide (1073741824 < a1) = false := decide_eq_false c7; clear c7; have H' := Aside0.mk H; clear H; go_enter Tryd.func13, Tryd.ntmps13
    go_wp2_with (first | ((with_reducible refine gate_callee (f := 34) rfl ?_); refine goesL_ (some 13) rfl rfl Tryd.func34 (by kernel_rfl) rfl #[.slice A0 l0.length c0] rfl (by (try simp only [List.map_toArray, List.map_cons, List.map_nil]); first | done | rfl | (simp only [List.length_drop, List.length_take]; rfl)) ?_; (with_reducible refine (lot_right.calls k _ _ l0 true _ ?side1 ?side2 A3.out).mono ?_); (case side1 => repeat (first | exact HR0.out | (with_reducible refine Kd.C_alloc ?_ _) | (with_reducible refine Kd.C_drewN ?_ _) | (with_reducible refine Kd.C_drew ?_))); (case side2 => exact HC0.out); rintro e w9 ⟨rfl, hb⟩; refine ⟨_, rfl, ?_⟩; have n0_ := Aside0.mk (below_step (eG HB.out) hb); clear HB; have HB := n0_; clear n0_; (try clear hb); (try clear hb2); (try clear hk); (try clear hi)))
    go_loopg [6, 24] k (fun kq v6 v24 w' => ∃ (x6_1 : Int) (x24_1 : Int), v6 = .int .i64 x6_1 ∧ v24 = .int .i64 x24_1 ∧ Aside0 (lot_Of.l0 kq a1 x6_1 l0 (l0.length : Int) x24_1 = some (r1, r2)) ∧ Aside0 (kq ≤ k) ∧ Aside0 (Below w.heap.size w w'))
    case atStart => exact ⟨(0), (0), (by first | rfl | (simp; done) | (simp [*]; done)), (by first | rfl | (simp; done) | (simp [*]; done)), H', ⟨Nat.le_refl _⟩, ⟨eG HB.out⟩⟩
    case round =>
     clear H'; repeat first | clear c1 | clear p2 | clear c3 | clear c4 | clear c5 | clear c5b0 | clear c7 | clear c7b0
     obtain ⟨x6_1, x24_1, rfl, rfl, HA, HK1, HB⟩ := hrel
     cases gk with
     | zero => exact absurd HA.out (by simp [lot_Of.l0])
     | succ k1 =>
      have H := HA.out; clear HA; simp only [lot_Of.l0] at H; by_cases c10 : x24_1 < (l0.length : Int)
      ·
       rw [if_pos c10] at H; have c10b0 : decide (x24_1 < (l0.length : Int)) = true := decide_eq_true c10; clear c10; by_cases c11 : 0 ≤ x24_1
       ·
        rw [if_pos c11] at H; have c11b0 : decide (0 ≤ x24_1) = true := decide_eq_true c11; clear c11; by_cases c12 : x24_1 < (l0.length : Int)
        ·
         rw [if_pos c12] at H; have c12b0 : decide (x24_1 < (l0.length : Int)) = true := decide_eq_true c12; clear c12; have H' := Aside0.mk H; clear H; have p136 : 0 ≤ (x24_1 : Int) := of_decide_eq_true (by first | (with_reducible assumption) | assumption); have q136 : x24_1 < (l0.length : Int) := of_decide_eq_true (by first | (with_reducible assumption) | assumption); obtain ⟨ad136, A136_3, c136_3, e136, hx136_0, hx136_1, hx136_2, hx136_3, hl136_3, hi136_3⟩ := at_T33 HR0.out x24_1 p136 q136; cases e136; replace hx136_0 := (HB.out.cell (World.block_lt_of_cell? w _ hx136_0)).trans hx136_0; replace hx136_1 := (HB.out.cell (World.block_lt_of_cell? w _ hx136_1)).trans hx136_1; replace hx136_2 := (HB.out.cell (World.block_lt_of_cell? w _ hx136_2)).trans hx136_2; replace hx136_3 := (HB.out.cell (World.block_lt_of_cell? w _ hx136_3)).trans hx136_3; have HR136_3 := Aside0.mk hi136_3; have HC136_3 := Aside0.mk hl136_3; clear hi136_3 hl136_3; replace p136 := eq_true p136; replace q136 := eq_true q136; go_wp2_with (first | ((with_reducible refine gate_dst (N := 8) rfl ?_); refine box_event ?hg (N := 8) ?hd (cs := #[.int .i64 0, .int .i64 0, .int .i64 0, .slice none 0 0]) (t := 33) ?hr ?_; (case hd => rfl); (case hg => rfl); (case hr => first | (go_simp; done) | (go_simp; rfl)); intro gb137 hg w13 hbox hb; have n0_ := Aside0.mk (below_step (eG HB.out) hb); have n1_ := Aside0.mk (hbox); have n2_ := Aside0.mk ((by rw [hg]; exact (below_size (eG HB.out)) : w.heap.size ≤ gb137)); have n3_ := Aside0.mk ((by rw [hg]; exact (below_size (eG HB.out)) : w.heap.size ≤ gb137)); clear HB; have HB := n0_; have BK137 := n1_; have GW137 := n2_; have GE137 := n3_; have ig137_ := geI GE137; clear n0_ n1_ n2_ n3_; clear hb hbox hg; have hcz14_0 : w13.cell? ⟨gb137, 0, none⟩ = some (.int .i64 0) := (blk_cell BK137.out 0).trans rfl; have hcz14_1 : w13.cell? ⟨gb137, 1, none⟩ = some (.int .i64 0) := (blk_cell BK137.out 1).trans rfl; have hcz14_2 : w13.cell? ⟨gb137, 2, none⟩ = some (.int .i64 0) := (blk_cell BK137.out 2).trans rfl; have hcz14_3 : w13.cell? ⟨gb137, 3, none⟩ = some (.slice none 0 0) := (blk_cell BK137.out 3).trans rfl; have hfz14_0 := blk_frozen BK137.out 0; have hfz14_1 := blk_frozen BK137.out 1; have hfz14_2 := blk_frozen BK137.out 2; have hfz14_3 := blk_frozen BK137.out 3))
         go_loopg [6, 31] k1 (fun kq v6 v31 w' => ∃ (x6_2 : Int) (x31_2 : Int), v6 = .int .i64 x6_2 ∧ v31 = .int .i64 x31_2 ∧ Aside0 (lot_Of.l1 kq a1 x6_2 l0 (l0.length : Int) x24_1 ((rd_T33 l0 x24_1).f2) (((rd_T33 l0 x24_1).f2).length : Int) x31_2 = some (r1, r2)) ∧ Aside0 (kq ≤ k1) ∧ Aside0 (w'.heap[gb137]? = some (.cells #[.int .i64 ((rd_T33 l0 x24_1).f0), .int .i64 ((rd_T33 l0 x24_1).f1.f0), .int .i64 ((rd_T33 l0 x24_1).f1.f1), (.slice A136_3 ((rd_T33 l0 x24_1).f2).length c136_3)] 33 (0, 0))) ∧ Aside0 (Below w.heap.size w w'))
         case atStart => exact ⟨(x6_1), (0), (by first | rfl | (simp; done) | (simp [*]; done)), (by first | rfl | (simp; done) | (simp [*]; done)), H', ⟨Nat.le_refl _⟩, ⟨by (with_reducible repeat first | apply bN | apply bD | apply bA); refine blk_put (cs := #[.int .i64 ((rd_T33 l0 x24_1).f0), .int .i64 ((rd_T33 l0 x24_1).f1.f0), .int .i64 ((rd_T33 l0 x24_1).f1.f1), .slice none 0 0]) ?_ 3 _ rfl; (with_reducible repeat first | apply bN | apply bD | apply bA); refine blk_put (cs := #[.int .i64 ((rd_T33 l0 x24_1).f0), .int .i64 ((rd_T33 l0 x24_1).f1.f0), .int .i64 0, .slice none 0 0]) ?_ 2 _ rfl; (with_reducible repeat first | apply bN | apply bD | apply bA); refine blk_put (cs := #[.int .i64 ((rd_T33 l0 x24_1).f0), .int .i64 0, .int .i64 0, .slice none 0 0]) ?_ 1 _ rfl; (with_reducible repeat first | apply bN | apply bD | apply bA); refine blk_put (cs := #[.int .i64 0, .int .i64 0, .int .i64 0, .slice none 0 0]) ?_ 0 _ rfl; (with_reducible repeat first | apply bN | apply bD | apply bA); exact BK137.out⟩, ⟨eG HB.out⟩⟩
         case round =>
          clear H'; repeat first | clear c1 | clear p1 | clear q1 | clear hx1 | clear p2 | clear c3 | clear c4 | clear c5 | clear c5b0 | clear c7 | clear c7b0 | clear c10 | clear c10b0 | clear c11 | clear c11b0 | clear c12 | clear c12b0 | clear c13 | clear p13 | clear q13 | clear hx13 | clear hcz14_0 | clear hcz14_1 | clear hcz14_2 | clear hcz14_3 | clear hfz14_0 | clear hfz14_1 | clear hfz14_2 | clear hfz14_3 | clear hx136_0 | clear hx136_1 | clear hx136_2 | clear hx136_3 | clear p136 | clear p2 | clear q136
          obtain ⟨x6_2, x31_2, rfl, rfl, HA, HK2, BK137, HB⟩ := hrel
          cases gk with
          | zero => exact absurd HA.out (by simp [lot_Of.l1])
          | succ k2 =>
           have H := HA.out; clear HA; simp only [lot_Of.l1] at H; by_cases c15 : x31_2 < (((rd_T33 l0 x24_1).f2).length : Int)
           ·
            rw [if_pos c15] at H; have c15b0 : decide (x31_2 < (((rd_T33 l0 x24_1).f2).length : Int)) = true := decide_eq_true c15; clear c15; by_cases c16 : 0 ≤ x31_2
            ·
             rw [if_pos c16] at H; have c16b0 : decide (0 ≤ x31_2) = true := decide_eq_true c16; clear c16; by_cases c17 : x31_2 < (((rd_T33 l0 x24_1).f2).length : Int)
             ·
              rw [if_pos c17] at H; have c17b0 : decide (x31_2 < (((rd_T33 l0 x24_1).f2).length : Int)) = true := decide_eq_true c17; clear c17; by_cases c18 : ((rd_T35 ((rd_T33 l0 x24_1).f2) x31_2).f0) = a1
              ·
               rw [if_pos c18] at H; have c18b0 : (((rd_T35 ((rd_T33 l0 x24_1).f2) x31_2).f0) == a1) = true := beq_iff_eq.mpr c18; have c18b1 : (((rd_T35 ((rd_T33 l0 x24_1).f2) x31_2).f0) != a1) = false := bne_eq_false_iff_eq.mpr c18; clear c18; have H' := Aside0.mk H; clear H; have p138 : 0 ≤ (x31_2 : Int) := of_decide_eq_true (by first | (with_reducible assumption) | assumption); have q138 : x31_2 < (((rd_T33 l0 x24_1).f2).length : Int) := of_decide_eq_true (by first | (with_reducible assumption) | assumption); obtain ⟨ad138, e138, hx138_0, hx138_1⟩ := at_T35 HR136_3.out x31_2 p138 q138; cases e138; replace hx138_0 := (HB.out.cell (World.block_lt_of_cell? w _ hx138_0)).trans hx138_0; replace hx138_1 := (HB.out.cell (World.block_lt_of_cell? w _ hx138_1)).trans hx138_1; replace p138 := eq_true p138; replace q138 := eq_true q138; go_wp2_with (first | ((with_reducible refine gate_dst (N := 10) rfl ?_); refine box_event ?hg (N := 10) ?hd (cs := #[.int .i64 0, .int .i64 0]) (t := 35) ?hr ?_; (case hd => rfl); (case hg => rfl); (case hr => first | (go_simp; done) | (go_simp; rfl)); intro gb139 hg w19 hbox hb; have n0_ := Aside0.mk (blk_below (bG BK137.out) hb); have n1_ := Aside0.mk (below_step (eG HB.out) hb); have n2_ := Aside0.mk (hbox); have n3_ := Aside0.mk ((by rw [hg]; exact (below_size (eG HB.out)) : w.heap.size ≤ gb139)); have n4_ := Aside0.mk ((by rw [hg]; exact (below_size (eG HB.out)) : w.heap.size ≤ gb139)); have n5_ := Aside0.mk ((by rw [hg]; exact Nat.ne_of_lt (blk_lt (bG BK137.out)) : gb137 ≠ gb139)); have n6_ := Aside0.mk ((by rw [hg]; exact Nat.ne_of_gt (blk_lt (bG BK137.out)) : gb139 ≠ gb137)); clear BK137; clear HB; have BK137 := n0_; have HB := n1_; have BK139 := n2_; have GW139 := n3_; have GE139 := n4_; have ig139_ := geI GE139; have NB137_139 := n5_; have NB139_137 := n6_; clear n0_ n1_ n2_ n3_ n4_ n5_ n6_; clear hb hbox hg; have hnb20 := NB139_137.out; have hnc20 := NB137_139.out; have hcz21_0 : w19.cell? ⟨gb139, 0, none⟩ = some (.int .i64 0) := (blk_cell BK139.out 0).trans rfl; have hcz21_1 : w19.cell? ⟨gb139, 1, none⟩ = some (.int .i64 0) := (blk_cell BK139.out 1).trans rfl; have hfz21_0 := blk_frozen BK139.out 0; have hfz21_1 := blk_frozen BK139.out 1))
               go_roundg k2
               case measure => have := HK1.out; have := HK2.out; omega
               case rel => exact ⟨(wrap64 (x6_2 + ((rd_T35 ((rd_T33 l0 x24_1).f2) x31_2).f1))), (wrap64 (x31_2 + 1)), (by first | rfl | (simp; done) | (simp [*]; done)), (by first | rfl | (simp; done) | (simp [*]; done)), H', ⟨by have := HK1.out; have := HK2.out; omega⟩, ⟨by (with_reducible repeat first | apply bN | apply bD | apply bA); refine blk_far ?_ NB137_139.out _; (with_reducible repeat first | apply bN | apply bD | apply bA); refine blk_far ?_ NB137_139.out _; (with_reducible repeat first | apply bN | apply bD | apply bA); exact BK137.out⟩, ⟨eG HB.out⟩⟩
              ·
               rw [if_neg c18] at H; have c18b0 : (((rd_T35 ((rd_T33 l0 x24_1).f2) x31_2).f0) == a1) = false := beq_eq_false_iff_ne.mpr c18; have c18b1 : (((rd_T35 ((rd_T33 l0 x24_1).f2) x31_2).f0) != a1) = true := bne_iff_ne.mpr c18; have H' := Aside0.mk H; clear H; have p138 : 0 ≤ (x31_2 : Int) := of_decide_eq_true (by first | (with_reducible assumption) | assumption); have q138 : x31_2 < (((rd_T33 l0 x24_1).f2).length : Int) := of_decide_eq_true (by first | (with_reducible assumption) | assumption); obtain ⟨ad138, e138, hx138_0, hx138_1⟩ := at_T35 HR136_3.out x31_2 p138 q138; cases e138; replace hx138_0 := (HB.out.cell (World.block_lt_of_cell? w _ hx138_0)).trans hx138_0; replace hx138_1 := (HB.out.cell (World.block_lt_of_cell? w _ hx138_1)).trans hx138_1; replace p138 := eq_true p138; replace q138 := eq_true q138; go_wp2_with (first | ((with_reducible refine gate_dst (N := 10) rfl ?_); refine box_event ?hg (N := 10) ?hd (cs := #[.int .i64 0, .int .i64 0]) (t := 35) ?hr ?_; (case hd => rfl); (case hg => rfl); (case hr => first | (go_simp; done) | (go_simp; rfl)); intro gb139 hg w22 hbox hb; have n0_ := Aside0.mk (blk_below (bG BK137.out) hb); have n1_ := Aside0.mk (below_step (eG HB.out) hb); have n2_ := Aside0.mk (hbox); have n3_ := Aside0.mk ((by rw [hg]; exact (below_size (eG HB.out)) : w.heap.size ≤ gb139)); have n4_ := Aside0.mk ((by rw [hg]; exact (below_size (eG HB.out)) : w.heap.size ≤ gb139)); have n5_ := Aside0.mk ((by rw [hg]; exact Nat.ne_of_lt (blk_lt (bG BK137.out)) : gb137 ≠ gb139)); have n6_ := Aside0.mk ((by rw [hg]; exact Nat.ne_of_gt (blk_lt (bG BK137.out)) : gb139 ≠ gb137)); clear BK137; clear HB; have BK137 := n0_; have HB := n1_; have BK139 := n2_; have GW139 := n3_; have GE139 := n4_; have ig139_ := geI GE139; have NB137_139 := n5_; have NB139_137 := n6_; clear n0_ n1_ n2_ n3_ n4_ n5_ n6_; clear hb hbox hg; have hnb23 := NB139_137.out; have hnc23 := NB137_139.out; have hcz24_0 : w22.cell? ⟨gb139, 0, none⟩ = some (.int .i64 0) := (blk_cell BK139.out 0).trans rfl; have hcz24_1 : w22.cell? ⟨gb139, 1, none⟩ = some (.int .i64 0) := (blk_cell BK139.out 1).trans rfl; have hfz24_0 := blk_frozen BK139.out 0; have hfz24_1 := blk_frozen BK139.out 1))
               go_roundg k2
               case measure => have := HK1.out; have := HK2.out; omega
               case rel => exact ⟨(x6_2), (wrap64 (x31_2 + 1)), (by first | rfl | (simp; done) | (simp [*]; done)), (by first | rfl | (simp; done) | (simp [*]; done)), H', ⟨by have := HK1.out; have := HK2.out; omega⟩, ⟨by (with_reducible repeat first | apply bN | apply bD | apply bA); refine blk_far ?_ NB137_139.out _; (with_reducible repeat first | apply bN | apply bD | apply bA); refine blk_far ?_ NB137_139.out _; (with_reducible repeat first | apply bN | apply bD | apply bA); exact BK137.out⟩, ⟨eG HB.out⟩⟩
             · rw [if_neg c17] at H; exact absurd H (by simp)
            · rw [if_neg c16] at H; exact absurd H (by simp)
           ·
            rw [if_neg c15] at H; have c15b0 : decide (x31_2 < (((rd_T33 l0 x24_1).f2).length : Int)) = false := decide_eq_false c15; clear c15; have H' := Aside0.mk H; clear H; go_wp2; go_roundg k2
            case measure => have := HK1.out; have := HK2.out; omega
            case rel => exact ⟨(x6_2), (wrap64 (x24_1 + 1)), (by first | rfl | (simp; done) | (simp [*]; done)), (by first | rfl | (simp; done) | (simp [*]; done)), H', ⟨by have := HK1.out; have := HK2.out; omega⟩, ⟨eG HB.out⟩⟩
        · rw [if_neg c12] at H; exact absurd H (by simp)
       · rw [if_neg c11] at H; exact absurd H (by simp)
      ·
       rw [if_neg c10] at H; have c10b0 : decide (x24_1 < (l0.length : Int)) = false := decide_eq_false c10; clear c10; simp only [Option.some.injEq, Prod.mk.injEq] at H; obtain ⟨rfl, rfl⟩ := H; go_wp2; go_ret2
       exact ⟨by first | rfl | (simp [errW_none, errW_some] <;> rfl) | (simp [*, errW_none, errW_some] <;> rfl), eG HB.out⟩
 ·
  replace c4 := Bool.eq_false_iff.mpr c4; subst c4; replace H : (some (0, 1)) = some (r1, r2) := by rw [if_neg (show ¬ (false = true) by decide)] at H; exact H
  simp only [Option.some.injEq, Prod.mk.injEq] at H; obtain ⟨rfl, rfl⟩ := H; go_enter Tryd.func13, Tryd.ntmps13
  go_wp2_with (first | ((with_reducible refine gate_callee (f := 34) rfl ?_); refine goesL_ (some 13) rfl rfl Tryd.func34 (by kernel_rfl) rfl #[.slice A0 l0.length c0] rfl (by (try simp only [List.map_toArray, List.map_cons, List.map_nil]); first | done | rfl | (simp only [List.length_drop, List.length_take]; rfl)) ?_; (with_reducible refine (lot_right.calls k _ _ l0 false _ ?side1 ?side2 A3.out).mono ?_); (case side1 => repeat (first | exact HR0.out | (with_reducible refine Kd.C_alloc ?_ _) | (with_reducible refine Kd.C_drewN ?_ _) | (with_reducible refine Kd.C_drew ?_))); (case side2 => exact HC0.out); rintro e w25 ⟨rfl, hb⟩; refine ⟨_, rfl, ?_⟩; have n0_ := Aside0.mk (below_step (eG HB.out) hb); clear HB; have HB := n0_; clear n0_; (try clear hb); (try clear hb2); (try clear hk); (try clear hi)))
  go_ret2
  exact ⟨by first | rfl | (simp [errW_none, errW_some] <;> rfl) | (simp [*, errW_none, errW_some] <;> rfl), eG HB.out⟩
def lot_Print.app (acc : List UInt8) (s : ByteArray) : Option (List UInt8) := if acc.length + s.size ≤ 140737488355328 then some (acc ++ s.data.toList) else none
def lot_Print.head (x : S33) : Option ByteArray := (strconv_Itoa.f x.f0).bind fun a => (strconv_Itoa.f x.f1.f1).bind fun b => if a.size ≤ 100 ∧ b.size ≤ 100 then some (((⟨#[108, 111, 116, 32]⟩ ++ a) ++ ⟨#[32, 109, 97, 115, 115, 32]⟩) ++ b) else none
def lot_Print.part (x : S35) : Option ByteArray := (strconv_Itoa.f x.f0).bind fun a => (strconv_Itoa.f x.f1).bind fun b => if a.size ≤ 100 ∧ b.size ≤ 100 then some (((⟨#[32, 102, 105, 108, 108, 32]⟩ ++ a) ++ ⟨#[32, 97, 108, 99, 111, 104, 111, 108, 32]⟩) ++ b) else none
mutual
def lot_Print.l1 : Nat → List S33 → List UInt8 → Int → Int → Option (ByteArray × Int)
 | 0, _, _, _, _ => none
 | k + 1, l, acc, i, j => if j < ((rd_T33 l i).f2.length : Int) then (if 0 ≤ j then ((lot_Print.part (rd_T35 (rd_T33 l i).f2 j)).bind fun s => (lot_Print.app acc s).bind fun acc2 => lot_Print.l1 k l acc2 i (wrap64 (j + 1))) else none) else ((lot_Print.app acc ⟨#[10]⟩).bind fun acc2 => lot_Print.l0 k l acc2 (wrap64 (i + 1)))
def lot_Print.l0 : Nat → List S33 → List UInt8 → Int → Option (ByteArray × Int)
 | 0, _, _, _ => none
 | k + 1, l, acc, i => if i < (l.length : Int) then (if 0 ≤ i then ((lot_Print.head (rd_T33 l i)).bind fun s => (lot_Print.app acc s).bind fun acc2 => lot_Print.l1 k l acc2 i 0) else none) else some (⟨acc.toArray⟩, 0)
end
def lot_Print.f (k : Nat) (l0 : List (S33)) : Option (ByteArray × Int) := (lot_right.f k l0).bind fun t => if t = true then lot_Print.l0 k l0 [] 0 else some (⟨#[]⟩, 1)
set_option maxHeartbeats 8000000 in
set_option maxRecDepth 100000 in
theorem lot_Print.calls (k : Nat) (A0 : Option Addr) (c0 : Nat) (l0 : List (S33)) (r1 : ByteArray) (r2 : Int) (w : World) (hr0 : Kd.C k33 w A0 l0.length l0) (hc0 : l0.length ≤ c0) (hG : GI w) (h : lot_Print.f k l0 = some (r1, r2)) :
  Calls Tryd.prog 30 #[.slice A0 l0.length c0] w fun e w' => e = .returned (.tuple #[.string r1, .int .i64 r2]) ∧ Below w.heap.size w w' := by
 have HR0 := Aside0.mk hr0; have HC0 := Aside0.mk hc0; clear hr0 hc0; have HG := Aside0.mk hG; clear hG; replace h := Option.bind_eq_some_iff.mp h; obtain ⟨t, ht, h⟩ := h; have H1 := Aside0.mk ht; have H2 := Aside0.mk h; clear ht h; go_enter Tryd.func30, Tryd.ntmps30
 go_wp2_with (go_at_call 34; refine (lot_right.calls k A0 c0 l0 t w HR0.out HC0.out H1.out).mono ?_)
 rintro e w1 ⟨rfl, hb1⟩; have HB := Aside0.mk hb1; clear hb1
 cases t with
 | false =>
  have H := H2.out; rw [if_neg (by decide)] at H; cases H; go_wp2; go_ret2
  exact ⟨rfl, HB.out⟩
 | true =>
  have H := H2.out; rw [if_pos rfl] at H; have H' := Aside0.mk H; clear H H2; have HBu := Aside0.mk (Lib.IsBuilderF.of (Lib.fresh_isBuilder 69 5 w1)); have HB0 := HB; have HB1 := HB0; replace HB := Aside0.mk (below_alloc HB.out (.cells #[.pointer none, .slice none 0 0] 69)); clear HB0; go_wp2; go_loopg [14] k (fun kq v14 w' => ∃ (x : Int) (acc : List UInt8), v14 = .int .i64 x ∧ Aside0 (lot_Print.l0 kq l0 acc x = some (r1, r2)) ∧ Aside0 (kq ≤ k) ∧ Aside0 (Lib.IsBuilderF 69 5 w1.heap.size w1.heap.size (Lib.byteCells acc) w') ∧ Aside0 (Below w.heap.size w w'))
  case atStart => exact ⟨0, [], rfl, H', ⟨Nat.le_refl _⟩, HBu, HB⟩
  case round =>
   clear H' HBu HB; have HW1 : Aside0 (w.heap.size ≤ w1.heap.size) := ⟨HB1.out.size⟩; obtain ⟨x, acc, rfl, HA, HK1, HBu, HB⟩ := hrel
   cases gk with
   | zero => exact absurd HA.out (by simp [lot_Print.l0])
   | succ k1 =>
    have H := HA.out; clear HA; simp only [lot_Print.l0] at H; by_cases c2 : x < (l0.length : Int)
    ·
     rw [if_pos c2] at H; have c2b : decide (x < (l0.length : Int)) = true := decide_eq_true c2; by_cases c3 : 0 ≤ x
     ·
      rw [if_pos c3] at H; have c3b : decide (0 ≤ x) = true := decide_eq_true c3; obtain ⟨s, hs, H⟩ := Option.bind_eq_some_iff.mp H; obtain ⟨acc2, ha, H⟩ := Option.bind_eq_some_iff.mp H; obtain ⟨ta, hta, hs⟩ := Option.bind_eq_some_iff.mp hs; obtain ⟨tb, htb, hs⟩ := Option.bind_eq_some_iff.mp hs; by_cases hsz : ta.size ≤ 100 ∧ tb.size ≤ 100
      case neg => rw [if_neg hsz] at hs; cases hs
      rw [if_pos hsz] at hs; obtain rfl := Option.some.inj hs; unfold lot_Print.app at ha; by_cases hln : acc.length + (((⟨#[108, 111, 116, 32]⟩ ++ ta) ++ ⟨#[32, 109, 97, 115, 115, 32]⟩) ++ tb : ByteArray).size ≤ 140737488355328
      case neg => rw [if_neg hln] at ha; cases ha
      rw [if_pos hln] at ha; obtain rfl := Option.some.inj ha; have HLEN := Aside0.mk hln; have HSZ := Aside0.mk hsz; clear hln hsz; have H' := Aside0.mk H; have HTA := Aside0.mk hta; have HTB := Aside0.mk htb; clear H hta htb hs ha; obtain ⟨ad1, A1, c1, e1, hx0, hx1, hx2, hx3, hl1, hi1⟩ := at_T33 HR0.out x c3 c2; cases e1; replace hx0 := (HB.out.cell (World.block_lt_of_cell? w _ hx0)).trans hx0; replace hx1 := (HB.out.cell (World.block_lt_of_cell? w _ hx1)).trans hx1; replace hx2 := (HB.out.cell (World.block_lt_of_cell? w _ hx2)).trans hx2; replace hx3 := (HB.out.cell (World.block_lt_of_cell? w _ hx3)).trans hx3; have HR1 := Aside0.mk hi1; have HC1 := Aside0.mk hl1; clear hi1 hl1; replace c3 := eq_true c3; replace c2 := eq_true c2; go_wp2_with (first | ((with_reducible refine gate_dst (N := 6) rfl ?_); refine box_event ?hg (N := 6) ?hd (cs := #[.int .i64 0, .int .i64 0, .int .i64 0, .slice none 0 0]) (t := 33) ?hr ?_; (case hd => rfl); (case hg => rfl); (case hr => first | (go_simp; done) | (go_simp; rfl)); intro gx hgx w13 hbox hb; have BK := Aside0.mk hbox; have GX := Aside0.mk hgx; have HBu13 := Aside0.mk (bld_below HBu.out hb); have Hb13 := Aside0.mk hb; clear hbox hb hgx; have hcz0 : w13.cell? ⟨gx, 0, none⟩ = some (.int .i64 0) := (blk_cell BK.out 0).trans rfl; have hcz1 : w13.cell? ⟨gx, 1, none⟩ = some (.int .i64 0) := (blk_cell BK.out 1).trans rfl; have hcz2 : w13.cell? ⟨gx, 2, none⟩ = some (.int .i64 0) := (blk_cell BK.out 2).trans rfl; have hcz3 : w13.cell? ⟨gx, 3, none⟩ = some (.slice none 0 0) := (blk_cell BK.out 3).trans rfl; have hfz0 := blk_frozen BK.out 0; have hfz1 := blk_frozen BK.out 1; have hfz2 := blk_frozen BK.out 2; have hfz3 := blk_frozen BK.out 3))
      have HbW : Aside0 (Below wr.heap.size wr ((((w13.setCell ⟨gx, 0, none⟩ (.int .i64 (rd_T33 l0 x).f0)).setCell ⟨gx, 1, none⟩ (.int .i64 (rd_T33 l0 x).f1.f0)).setCell ⟨gx, 2, none⟩ (.int .i64 (rd_T33 l0 x).f1.f1)).setCell ⟨gx, 3, none⟩ (.slice A1 (rd_T33 l0 x).f2.length c1))) :=
       ⟨(((Hb13.out.setCell (p := ⟨gx, 0, none⟩) (Nat.le_of_eq GX.out.symm) _).setCell (p := ⟨gx, 1, none⟩) (Nat.le_of_eq GX.out.symm) _).setCell (p := ⟨gx, 2, none⟩) (Nat.le_of_eq GX.out.symm) _).setCell (p := ⟨gx, 3, none⟩) (Nat.le_of_eq GX.out.symm) _⟩
      have HX : Aside0 (((((w13.setCell ⟨gx, 0, none⟩ (.int .i64 (rd_T33 l0 x).f0)).setCell ⟨gx, 1, none⟩ (.int .i64 (rd_T33 l0 x).f1.f0)).setCell ⟨gx, 2, none⟩ (.int .i64 (rd_T33 l0 x).f1.f1)).setCell ⟨gx, 3, none⟩ (.slice A1 (rd_T33 l0 x).f2.length c1)).heap[gx]? = some (.cells #[.int .i64 (rd_T33 l0 x).f0, .int .i64 (rd_T33 l0 x).f1.f0, .int .i64 (rd_T33 l0 x).f1.f1, .slice A1 (rd_T33 l0 x).f2.length c1] 33 (0, 0))) :=
       ⟨blk_put (cs := #[.int .i64 (rd_T33 l0 x).f0, .int .i64 (rd_T33 l0 x).f1.f0, .int .i64 (rd_T33 l0 x).f1.f1, .slice none 0 0]) (blk_put (cs := #[.int .i64 (rd_T33 l0 x).f0, .int .i64 (rd_T33 l0 x).f1.f0, .int .i64 0, .slice none 0 0]) (blk_put (cs := #[.int .i64 (rd_T33 l0 x).f0, .int .i64 0, .int .i64 0, .slice none 0 0]) (blk_put (cs := #[.int .i64 0, .int .i64 0, .int .i64 0, .slice none 0 0]) BK.out 0 _ rfl) 1 _ rfl) 2 _ rfl) 3 _ rfl⟩
      generalize ((((w13.setCell ⟨gx, 0, none⟩ (.int .i64 (rd_T33 l0 x).f0)).setCell ⟨gx, 1, none⟩ (.int .i64 (rd_T33 l0 x).f1.f0)).setCell ⟨gx, 2, none⟩ (.int .i64 (rd_T33 l0 x).f1.f1)).setCell ⟨gx, 3, none⟩ (.slice A1 (rd_T33 l0 x).f2.length c1)) = W at HbW HX ⊢; have HBuW := Aside0.mk (bld_below HBu.out HbW.out); have HBW := Aside0.mk (below_step HB.out HbW.out); have GXB : Aside0 (gx ≠ w1.heap.size) := ⟨by rw [GX.out]; exact bld_ne HBu.out⟩; clear hcz0 hcz1 hcz2 hcz3 hfz0 hfz1 hfz2 hfz3 hx0 hx1 hx2 hx3 BK HBu13 Hb13 HB HBu HbW; have ha1 : ∀ w, (Op.stringOp .add ⟨#[108, 111, 116, 32]⟩ ta).run Tryd.prog w = .ok (.string (⟨#[108, 111, 116, 32]⟩ ++ ta)) w := fun w => run_string_add_sum _ _ _ (by have := HSZ.out.1; rw [show (⟨#[108, 111, 116, 32]⟩ : ByteArray).size = 4 from rfl]; omega)
      have ha2 : ∀ w, (Op.stringOp .add (⟨#[108, 111, 116, 32]⟩ ++ ta) ⟨#[32, 109, 97, 115, 115, 32]⟩).run Tryd.prog w = .ok (.string ((⟨#[108, 111, 116, 32]⟩ ++ ta) ++ ⟨#[32, 109, 97, 115, 115, 32]⟩)) w := fun w => run_string_add_sum _ _ _ (by have := HSZ.out.1; simp only [ByteArray.size_append]; rw [show (⟨#[108, 111, 116, 32]⟩ : ByteArray).size = 4 from rfl, show (⟨#[32, 109, 97, 115, 115, 32]⟩ : ByteArray).size = 6 from rfl]; omega)
      have ha3 : ∀ w, (Op.stringOp .add ((⟨#[108, 111, 116, 32]⟩ ++ ta) ++ ⟨#[32, 109, 97, 115, 115, 32]⟩) tb).run Tryd.prog w = .ok (.string (((⟨#[108, 111, 116, 32]⟩ ++ ta) ++ ⟨#[32, 109, 97, 115, 115, 32]⟩) ++ tb)) w := fun w => run_string_add_sum _ _ _ (by have := HSZ.out; simp only [ByteArray.size_append]; rw [show (⟨#[108, 111, 116, 32]⟩ : ByteArray).size = 4 from rfl, show (⟨#[32, 109, 97, 115, 115, 32]⟩ : ByteArray).size = 6 from rfl]; omega)
      refine start_ (n := 11) (S := fun w' => w'.cell? ⟨gx, 0, none⟩ = some (.int .i64 (rd_T33 l0 x).f0) ∧ w'.cell? ⟨gx, 2, none⟩ = some (.int .i64 (rd_T33 l0 x).f1.f1) ∧ Lib.IsBuilderF 69 5 w1.heap.size w1.heap.size (Lib.byteCells acc) w' ∧ Below w.heap.size w w' ∧ w'.heap[gx]? = some (.cells #[.int .i64 (rd_T33 l0 x).f0, .int .i64 (rd_T33 l0 x).f1.f0, .int .i64 (rd_T33 l0 x).f1.f1, .slice A1 (rd_T33 l0 x).f2.length c1] 33 (0, 0)) ∧ GI w') (ds := [10]) #[false, false, false, false, false, false, false, false, false, false, false] (by kernel_rfl) rfl rfl ⟨(blk_cell HX.out 0).trans rfl, (blk_cell HX.out 2).trans rfl, HBuW.out, (below_drew1 HBW.out), HX.out, (GI.below HG.out (below_drew1 HBW.out))⟩ (fun hHeld => ?_); generalize W.drew = Wd at hHeld ⊢; refine pure_ (i := 0) (N := some 18) (v := ?_) (a' := ?_) #[true, false, false, false, false, false, false, false, false, false, false] rfl rfl (by kernel_rfl) (fun _ _ _ h => h) (Or.inl ⟨by rfl, ?_⟩) ?_ ?_; rotate_left
      · intro w'; go_simp; with_reducible rfl
      rotate_left
      · simp only [Act.put, sIA, sC0, sCS, i64_w, i32_w]; rfl
      refine pure_ (i := 5) (N := some 23) (v := ?_) (a' := ?_) #[true, false, false, false, false, true, false, false, false, false, false] rfl rfl (by kernel_rfl) (fun _ _ _ h => h) (Or.inl ⟨by rfl, ?_⟩) ?_ ?_; rotate_left
      · intro w'; go_simp; with_reducible rfl
      rotate_left
      · simp only [Act.put, sIA, sC0, sCS, i64_w, i32_w]; rfl
      refine pure_ (i := 6) (N := some 24) (v := ?_) (a' := ?_) #[true, false, false, false, false, true, true, false, false, false, false] rfl rfl (by kernel_rfl) (fun _ _ _ h => h) (Or.inl ⟨by rfl, ?_⟩) ?_ ?_; rotate_left
      · intro w'; go_simp; with_reducible rfl
      rotate_left
      · simp only [Act.put, sIA, sC0, sCS, i64_w, i32_w]; rfl
      refine take_ (i := 1) (N := some 19) (v := ?_) (a' := ?_) #[true, true, false, false, false, true, true, false, false, false, false] rfl rfl (by kernel_rfl) (fun _ _ _ h => h) (Or.inl ⟨by rfl, ?_⟩) hHeld ?_ ?_; rotate_left
      · rintro w' ⟨s0, s1, s2, s3, s4, s5⟩; go_simp; with_reducible rfl
      rotate_left
      · simp only [Act.put, sIA, sC0, sCS, i64_w, i32_w]; rfl
      refine take_ (i := 7) (N := some 25) (v := ?_) (a' := ?_) #[true, true, false, false, false, true, true, true, false, false, false] rfl rfl (by kernel_rfl) (fun _ _ _ h => h) (Or.inl ⟨by rfl, ?_⟩) hHeld ?_ ?_; rotate_left
      · rintro w' ⟨s0, s1, s2, s3, s4, s5⟩; go_simp; with_reducible rfl
      rotate_left
      · simp only [Act.put, sIA, sC0, sCS, i64_w, i32_w]; rfl
      refine one_ (i := 2) (N := some 20) #[true, true, true, false, false, true, true, true, false, false, false] rfl rfl (by kernel_rfl) (by decide) (fun K hK => ?_); refine goes_ Tryd.func50 (by kernel_rfl) rfl #[.int .i64 ((rd_T33 l0 x).f0)] (by rfl) rfl rfl (by simp only [List.map_toArray, List.map_cons, List.map_nil]; rfl) ?_; with_reducible refine (strconv_Itoa.calls _ _ _ hHeld.2.2.2.2.2 HTA.out).mono ?_
      rintro e w3 ⟨rfl, hb3⟩; refine ⟨_, rfl, ?_⟩; refine hK.out _ _ ⟨((hb3.cell (World.block_lt_of_cell? _ _ (hHeld.1))).trans (hHeld.1)), ((hb3.cell (World.block_lt_of_cell? _ _ (hHeld.2.1))).trans (hHeld.2.1)), bld_below (hHeld.2.2.1) hb3, below_step (hHeld.2.2.2.1) hb3, (hb3.block _ (blk_lt (hHeld.2.2.2.2.1))).trans (hHeld.2.2.2.2.1), GI.below (hHeld.2.2.2.2.2) hb3⟩ (fun hHeld => ?_); clear hK K; refine norm_ (a' := ?_) ?_ ?_; rotate_left
      ·
       show Act.put _ (some 20) _ = _
       simp only [Act.put, sIA, sC0, sCS, i64_w, i32_w]; rfl
      refine pure_ (i := 3) (N := some 21) (v := ?_) (a' := ?_) #[true, true, true, true, false, true, true, true, false, false, false] rfl rfl (by kernel_rfl) (fun _ _ _ h => h) (Or.inl ⟨by rfl, ?_⟩) ?_ ?_; rotate_left
      · intro w'; go_simp; with_reducible rfl
      rotate_left
      · simp only [Act.put, sIA, sC0, sCS, i64_w, i32_w]; rfl
      refine pure_ (i := 4) (N := some 22) (v := ?_) (a' := ?_) #[true, true, true, true, true, true, true, true, false, false, false] rfl rfl (by kernel_rfl) (fun _ _ _ h => h) (Or.inl ⟨by rfl, ?_⟩) ?_ ?_; rotate_left
      · intro w'; go_simp; with_reducible rfl
      rotate_left
      · simp only [Act.put, sIA, sC0, sCS, i64_w, i32_w]; rfl
      refine one_ (i := 8) (N := some 26) #[true, true, true, true, true, true, true, true, true, false, false] rfl rfl (by kernel_rfl) (by decide) (fun K hK => ?_); refine goes_ Tryd.func50 (by kernel_rfl) rfl #[.int .i64 ((rd_T33 l0 x).f1.f1)] (by rfl) rfl rfl (by simp only [List.map_toArray, List.map_cons, List.map_nil]; rfl) ?_; with_reducible refine (strconv_Itoa.calls _ _ _ hHeld.2.2.2.2.2 HTB.out).mono ?_
      rintro e w3 ⟨rfl, hb3⟩; refine ⟨_, rfl, ?_⟩; refine hK.out _ _ ⟨((hb3.cell (World.block_lt_of_cell? _ _ (hHeld.1))).trans (hHeld.1)), ((hb3.cell (World.block_lt_of_cell? _ _ (hHeld.2.1))).trans (hHeld.2.1)), bld_below (hHeld.2.2.1) hb3, below_step (hHeld.2.2.2.1) hb3, (hb3.block _ (blk_lt (hHeld.2.2.2.2.1))).trans (hHeld.2.2.2.2.1), GI.below (hHeld.2.2.2.2.2) hb3⟩ (fun hHeld => ?_); clear hK K; refine norm_ (a' := ?_) ?_ ?_; rotate_left
      ·
       show Act.put _ (some 26) _ = _
       simp only [Act.put, sIA, sC0, sCS, i64_w, i32_w]; rfl
      refine pure_ (i := 9) (N := some 27) (v := ?_) (a' := ?_) #[true, true, true, true, true, true, true, true, true, true, false] rfl rfl (by kernel_rfl) (fun _ _ _ h => h) (Or.inl ⟨by rfl, ?_⟩) ?_ ?_; rotate_left
      · intro w'; go_simp; with_reducible rfl
      rotate_left
      · simp only [Act.put, sIA, sC0, sCS, i64_w, i32_w]; rfl
      refine last_ (i := 10) (N := some 28) #[true, true, true, true, true, true, true, true, true, true, true] rfl rfl (by kernel_rfl) (by decide) (fun K hK => ?_); refine goes_ Tryd.func49 (by kernel_rfl) rfl #[.pointer (some ⟨w1.heap.size, 0, none⟩), .string (((⟨#[108, 111, 116, 32]⟩ ++ ta) ++ ⟨#[32, 109, 97, 115, 115, 32]⟩) ++ tb)] (by rfl) rfl rfl (by simp only [List.map_toArray, List.map_cons, List.map_nil]; rfl) ?_; with_reducible refine (writeBytes _ _ _ _ _ (hHeld.2.2.1) HLEN.out).mono ?_
      rintro e w3 ⟨⟨n3, rfl⟩, hbu3, hb3, hk3⟩; have HBu2 := Aside0.mk hbu3; have HB2 := Aside0.mk (below_mine (hHeld.2.2.2.1) hb3 HW1.out); have HX2 := Aside0.mk (others_blk hk3 (hHeld.2.2.2.2.1) GXB.out (by decide)); clear hbu3 hb3 hk3; refine ⟨_, rfl, ?_⟩; refine hK.out _ _ ?_; clear hK K; refine norm_ (a' := ?_) ?_ ?_; rotate_left
      ·
       show Act.put _ (some 28) _ = _
       simp only [Act.put, sIA, sC0, sCS, i64_w, i32_w]; rfl
      refine done_ (by kernel_rfl) ?_; clear ha1 ha2 ha3; have hx3 : w3.cell? ⟨gx, 3, none⟩ = some (.slice A1 (rd_T33 l0 x).f2.length c1) := (blk_cell HX2.out 3).trans rfl; go_wp2; go_loopg [32] k1 (fun kq v32 w' => ∃ (y : Int) (acc : List UInt8), v32 = .int .i64 y ∧ Aside0 (lot_Print.l1 kq l0 acc x y = some (r1, r2)) ∧ Aside0 (kq ≤ k1) ∧ Aside0 (Lib.IsBuilderF 69 5 w1.heap.size w1.heap.size (Lib.byteCells acc) w') ∧ Aside0 (Below w.heap.size w w'))
      case atStart => exact ⟨0, _, rfl, H', ⟨Nat.le_refl _⟩, HBu2, HB2⟩
      case round =>
       clear H' HBu2 HB2 hx3 HX2 HX HBuW HBW HTA HTB HSZ HLEN; obtain ⟨y, acc, rfl, HA, HK2, HBu, HB⟩ := hrel
       cases gk with
       | zero => exact absurd HA.out (by simp [lot_Print.l1])
       | succ k2 =>
        have H := HA.out; clear HA; simp only [lot_Print.l1] at H; by_cases c4 : y < ((rd_T33 l0 x).f2.length : Int)
        ·
         rw [if_pos c4] at H; have c4b : decide (y < ((rd_T33 l0 x).f2.length : Int)) = true := decide_eq_true c4; by_cases c5 : 0 ≤ y
         ·
          rw [if_pos c5] at H; have c5b : decide (0 ≤ y) = true := decide_eq_true c5; obtain ⟨s, hs, H⟩ := Option.bind_eq_some_iff.mp H; obtain ⟨acc2, ha, H⟩ := Option.bind_eq_some_iff.mp H; obtain ⟨ta, hta, hs⟩ := Option.bind_eq_some_iff.mp hs; obtain ⟨tb, htb, hs⟩ := Option.bind_eq_some_iff.mp hs; by_cases hsz : ta.size ≤ 100 ∧ tb.size ≤ 100
          case neg => rw [if_neg hsz] at hs; cases hs
          rw [if_pos hsz] at hs; obtain rfl := Option.some.inj hs; unfold lot_Print.app at ha; by_cases hln : acc.length + (((⟨#[32, 102, 105, 108, 108, 32]⟩ ++ ta) ++ ⟨#[32, 97, 108, 99, 111, 104, 111, 108, 32]⟩) ++ tb : ByteArray).size ≤ 140737488355328
          case neg => rw [if_neg hln] at ha; cases ha
          rw [if_pos hln] at ha; obtain rfl := Option.some.inj ha; have HLEN := Aside0.mk hln; have HSZ := Aside0.mk hsz; have H' := Aside0.mk H; have HTA := Aside0.mk hta; have HTB := Aside0.mk htb; clear H hta htb hs ha hln hsz; obtain ⟨ad2, e2, hy0, hy1⟩ := at_T35 HR1.out y c5 c4; cases e2; replace hy0 := (HB.out.cell (World.block_lt_of_cell? w _ hy0)).trans hy0; replace hy1 := (HB.out.cell (World.block_lt_of_cell? w _ hy1)).trans hy1; replace c4 := eq_true c4; replace c5 := eq_true c5; rename World => wr2
          go_wp2_with (first | ((with_reducible refine gate_dst (N := 8) rfl ?_); refine box_event ?hg (N := 8) ?hd (cs := #[.int .i64 0, .int .i64 0]) (t := 35) ?hr ?_; (case hd => rfl); (case hg => rfl); (case hr => first | (go_simp; done) | (go_simp; rfl)); intro gs hgs w14 hbox hb; have BK := Aside0.mk hbox; have GS := Aside0.mk hgs; have Hb14 := Aside0.mk hb; clear hbox hb hgs; have hcz0 : w14.cell? ⟨gs, 0, none⟩ = some (.int .i64 0) := (blk_cell BK.out 0).trans rfl; have hcz1 : w14.cell? ⟨gs, 1, none⟩ = some (.int .i64 0) := (blk_cell BK.out 1).trans rfl; have hfz0 := blk_frozen BK.out 0; have hfz1 := blk_frozen BK.out 1))
          have HbW : Aside0 (Below wr2.heap.size wr2 ((w14.setCell ⟨gs, 0, none⟩ (.int .i64 (rd_T35 (rd_T33 l0 x).f2 y).f0)).setCell ⟨gs, 1, none⟩ (.int .i64 (rd_T35 (rd_T33 l0 x).f2 y).f1))) :=
           ⟨(Hb14.out.setCell (p := ⟨gs, 0, none⟩) (Nat.le_of_eq GS.out.symm) _).setCell (p := ⟨gs, 1, none⟩) (Nat.le_of_eq GS.out.symm) _⟩
          have HX : Aside0 (((w14.setCell ⟨gs, 0, none⟩ (.int .i64 (rd_T35 (rd_T33 l0 x).f2 y).f0)).setCell ⟨gs, 1, none⟩ (.int .i64 (rd_T35 (rd_T33 l0 x).f2 y).f1)).heap[gs]? = some (.cells #[.int .i64 (rd_T35 (rd_T33 l0 x).f2 y).f0, .int .i64 (rd_T35 (rd_T33 l0 x).f2 y).f1] 35 (0, 0))) :=
           ⟨blk_put (cs := #[.int .i64 (rd_T35 (rd_T33 l0 x).f2 y).f0, .int .i64 0]) (blk_put (cs := #[.int .i64 0, .int .i64 0]) BK.out 0 _ rfl) 1 _ rfl⟩
          generalize ((w14.setCell ⟨gs, 0, none⟩ (.int .i64 (rd_T35 (rd_T33 l0 x).f2 y).f0)).setCell ⟨gs, 1, none⟩ (.int .i64 (rd_T35 (rd_T33 l0 x).f2 y).f1)) = W at HbW HX ⊢; have HBuW := Aside0.mk (bld_below HBu.out HbW.out); have HBW := Aside0.mk (below_step HB.out HbW.out); clear hcz0 hcz1 hfz0 hfz1 hy0 hy1 BK Hb14 HB HBu HbW; have ha1 : ∀ w, (Op.stringOp .add ⟨#[32, 102, 105, 108, 108, 32]⟩ ta).run Tryd.prog w = .ok (.string (⟨#[32, 102, 105, 108, 108, 32]⟩ ++ ta)) w := fun w => run_string_add_sum _ _ _ (by have := HSZ.out.1; rw [show (⟨#[32, 102, 105, 108, 108, 32]⟩ : ByteArray).size = 6 from rfl]; omega)
          have ha2 : ∀ w, (Op.stringOp .add (⟨#[32, 102, 105, 108, 108, 32]⟩ ++ ta) ⟨#[32, 97, 108, 99, 111, 104, 111, 108, 32]⟩).run Tryd.prog w = .ok (.string ((⟨#[32, 102, 105, 108, 108, 32]⟩ ++ ta) ++ ⟨#[32, 97, 108, 99, 111, 104, 111, 108, 32]⟩)) w := fun w => run_string_add_sum _ _ _ (by have := HSZ.out.1; simp only [ByteArray.size_append]; rw [show (⟨#[32, 102, 105, 108, 108, 32]⟩ : ByteArray).size = 6 from rfl, show (⟨#[32, 97, 108, 99, 111, 104, 111, 108, 32]⟩ : ByteArray).size = 9 from rfl]; omega)
          have ha3 : ∀ w, (Op.stringOp .add ((⟨#[32, 102, 105, 108, 108, 32]⟩ ++ ta) ++ ⟨#[32, 97, 108, 99, 111, 104, 111, 108, 32]⟩) tb).run Tryd.prog w = .ok (.string (((⟨#[32, 102, 105, 108, 108, 32]⟩ ++ ta) ++ ⟨#[32, 97, 108, 99, 111, 104, 111, 108, 32]⟩) ++ tb)) w := fun w => run_string_add_sum _ _ _ (by have := HSZ.out; simp only [ByteArray.size_append]; rw [show (⟨#[32, 102, 105, 108, 108, 32]⟩ : ByteArray).size = 6 from rfl, show (⟨#[32, 97, 108, 99, 111, 104, 111, 108, 32]⟩ : ByteArray).size = 9 from rfl]; omega)
          refine start_ (n := 10) (S := fun w' => w'.cell? ⟨gs, 0, none⟩ = some (.int .i64 (rd_T35 (rd_T33 l0 x).f2 y).f0) ∧ w'.cell? ⟨gs, 1, none⟩ = some (.int .i64 (rd_T35 (rd_T33 l0 x).f2 y).f1) ∧ Lib.IsBuilderF 69 5 w1.heap.size w1.heap.size (Lib.byteCells acc) w' ∧ Below w.heap.size w w' ∧ GI w') (ds := [9]) #[false, false, false, false, false, false, false, false, false, false] (by kernel_rfl) rfl rfl ⟨(blk_cell HX.out 0).trans rfl, (blk_cell HX.out 1).trans rfl, HBuW.out, (below_drew1 HBW.out), (GI.below HG.out (below_drew1 HBW.out))⟩ (fun hHeld => ?_); generalize W.drew = Wd at hHeld ⊢; refine pure_ (i := 0) (N := some 36) (v := ?_) (a' := ?_) #[true, false, false, false, false, false, false, false, false, false] rfl rfl (by kernel_rfl) (fun _ _ _ h => h) (Or.inl ⟨by rfl, ?_⟩) ?_ ?_; rotate_left
          · intro w'; go_simp; with_reducible rfl
          rotate_left
          · simp only [Act.put, sIA, sC0, sCS, i64_w, i32_w]; rfl
          refine pure_ (i := 5) (N := some 41) (v := ?_) (a' := ?_) #[true, false, false, false, false, true, false, false, false, false] rfl rfl (by kernel_rfl) (fun _ _ _ h => h) (Or.inl ⟨by rfl, ?_⟩) ?_ ?_; rotate_left
          · intro w'; go_simp; with_reducible rfl
          rotate_left
          · simp only [Act.put, sIA, sC0, sCS, i64_w, i32_w]; rfl
          refine take_ (i := 1) (N := some 37) (v := ?_) (a' := ?_) #[true, true, false, false, false, true, false, false, false, false] rfl rfl (by kernel_rfl) (fun _ _ _ h => h) (Or.inl ⟨by rfl, ?_⟩) hHeld ?_ ?_; rotate_left
          · rintro w' ⟨s0, s1, s2, s3, s4⟩; go_simp; with_reducible rfl
          rotate_left
          · simp only [Act.put, sIA, sC0, sCS, i64_w, i32_w]; rfl
          refine take_ (i := 6) (N := some 42) (v := ?_) (a' := ?_) #[true, true, false, false, false, true, true, false, false, false] rfl rfl (by kernel_rfl) (fun _ _ _ h => h) (Or.inl ⟨by rfl, ?_⟩) hHeld ?_ ?_; rotate_left
          · rintro w' ⟨s0, s1, s2, s3, s4⟩; go_simp; with_reducible rfl
          rotate_left
          · simp only [Act.put, sIA, sC0, sCS, i64_w, i32_w]; rfl
          refine one_ (i := 2) (N := some 38) #[true, true, true, false, false, true, true, false, false, false] rfl rfl (by kernel_rfl) (by decide) (fun K hK => ?_); refine goes_ Tryd.func50 (by kernel_rfl) rfl #[.int .i64 ((rd_T35 (rd_T33 l0 x).f2 y).f0)] (by rfl) rfl rfl (by simp only [List.map_toArray, List.map_cons, List.map_nil]; rfl) ?_; with_reducible refine (strconv_Itoa.calls _ _ _ hHeld.2.2.2.2 HTA.out).mono ?_
          rintro e w3 ⟨rfl, hb3⟩; refine ⟨_, rfl, ?_⟩; refine hK.out _ _ ⟨((hb3.cell (World.block_lt_of_cell? _ _ (hHeld.1))).trans (hHeld.1)), ((hb3.cell (World.block_lt_of_cell? _ _ (hHeld.2.1))).trans (hHeld.2.1)), bld_below (hHeld.2.2.1) hb3, below_step (hHeld.2.2.2.1) hb3, GI.below (hHeld.2.2.2.2) hb3⟩ (fun hHeld => ?_); clear hK K; refine norm_ (a' := ?_) ?_ ?_; rotate_left
          ·
           show Act.put _ (some 38) _ = _
           simp only [Act.put, sIA, sC0, sCS, i64_w, i32_w]; rfl
          refine pure_ (i := 3) (N := some 39) (v := ?_) (a' := ?_) #[true, true, true, true, false, true, true, false, false, false] rfl rfl (by kernel_rfl) (fun _ _ _ h => h) (Or.inl ⟨by rfl, ?_⟩) ?_ ?_; rotate_left
          · intro w'; go_simp; with_reducible rfl
          rotate_left
          · simp only [Act.put, sIA, sC0, sCS, i64_w, i32_w]; rfl
          refine pure_ (i := 4) (N := some 40) (v := ?_) (a' := ?_) #[true, true, true, true, true, true, true, false, false, false] rfl rfl (by kernel_rfl) (fun _ _ _ h => h) (Or.inl ⟨by rfl, ?_⟩) ?_ ?_; rotate_left
          · intro w'; go_simp; with_reducible rfl
          rotate_left
          · simp only [Act.put, sIA, sC0, sCS, i64_w, i32_w]; rfl
          refine one_ (i := 7) (N := some 43) #[true, true, true, true, true, true, true, true, false, false] rfl rfl (by kernel_rfl) (by decide) (fun K hK => ?_); refine goes_ Tryd.func50 (by kernel_rfl) rfl #[.int .i64 ((rd_T35 (rd_T33 l0 x).f2 y).f1)] (by rfl) rfl rfl (by simp only [List.map_toArray, List.map_cons, List.map_nil]; rfl) ?_; with_reducible refine (strconv_Itoa.calls _ _ _ hHeld.2.2.2.2 HTB.out).mono ?_
          rintro e w3 ⟨rfl, hb3⟩; refine ⟨_, rfl, ?_⟩; refine hK.out _ _ ⟨((hb3.cell (World.block_lt_of_cell? _ _ (hHeld.1))).trans (hHeld.1)), ((hb3.cell (World.block_lt_of_cell? _ _ (hHeld.2.1))).trans (hHeld.2.1)), bld_below (hHeld.2.2.1) hb3, below_step (hHeld.2.2.2.1) hb3, GI.below (hHeld.2.2.2.2) hb3⟩ (fun hHeld => ?_); clear hK K; refine norm_ (a' := ?_) ?_ ?_; rotate_left
          ·
           show Act.put _ (some 43) _ = _
           simp only [Act.put, sIA, sC0, sCS, i64_w, i32_w]; rfl
          refine pure_ (i := 8) (N := some 44) (v := ?_) (a' := ?_) #[true, true, true, true, true, true, true, true, true, false] rfl rfl (by kernel_rfl) (fun _ _ _ h => h) (Or.inl ⟨by rfl, ?_⟩) ?_ ?_; rotate_left
          · intro w'; go_simp; with_reducible rfl
          rotate_left
          · simp only [Act.put, sIA, sC0, sCS, i64_w, i32_w]; rfl
          refine last_ (i := 9) (N := some 45) #[true, true, true, true, true, true, true, true, true, true] rfl rfl (by kernel_rfl) (by decide) (fun K hK => ?_); refine goes_ Tryd.func49 (by kernel_rfl) rfl #[.pointer (some ⟨w1.heap.size, 0, none⟩), .string (((⟨#[32, 102, 105, 108, 108, 32]⟩ ++ ta) ++ ⟨#[32, 97, 108, 99, 111, 104, 111, 108, 32]⟩) ++ tb)] (by rfl) rfl rfl (by simp only [List.map_toArray, List.map_cons, List.map_nil]; rfl) ?_; with_reducible refine (writeBytes _ _ _ _ _ (hHeld.2.2.1) HLEN.out).mono ?_
          rintro e w3 ⟨⟨n3, rfl⟩, hbu3, hb3, hk3⟩; have HBu2 := Aside0.mk hbu3; have HB2 := Aside0.mk (below_mine (hHeld.2.2.2.1) hb3 HW1.out); clear hbu3 hb3 hk3; refine ⟨_, rfl, ?_⟩; refine hK.out _ _ ?_; clear hK K; refine norm_ (a' := ?_) ?_ ?_; rotate_left
          ·
           show Act.put _ (some 45) _ = _
           simp only [Act.put, sIA, sC0, sCS, i64_w, i32_w]; rfl
          refine done_ (by kernel_rfl) ?_; clear ha1 ha2 ha3; go_wp2; go_roundg k2
          case measure => have := HK2.out; omega
          case rel => exact ⟨wrap64 (y + 1), _, rfl, H', ⟨by have := HK2.out; omega⟩, HBu2, HB2⟩
         · rw [if_neg c5] at H; cases H
        ·
         rw [if_neg c4] at H; have c4b : decide (y < ((rd_T33 l0 x).f2.length : Int)) = false := decide_eq_false c4; obtain ⟨acc2, ha, H⟩ := Option.bind_eq_some_iff.mp H; unfold lot_Print.app at ha; by_cases hln : acc.length + (⟨#[10]⟩ : ByteArray).size ≤ 140737488355328
         case neg => rw [if_neg hln] at ha; cases ha
         rw [if_pos hln] at ha; obtain rfl := Option.some.inj ha; have HLEN := Aside0.mk hln; have H' := Aside0.mk H; clear H ha hln c4; go_wp2_with (go_at_call 49; refine (writeBytes _ _ _ _ _ HBu.out HLEN.out).mono ?_)
         intro e w3 n3 he hbu3 hb3 hk3; subst he; have HBu3 := Aside0.mk hbu3; have HB3 := Aside0.mk (below_mine HB.out hb3 HW1.out); clear hbu3 hb3 hk3; go_wp2; go_roundg k2
         case measure => have := HK1.out; have := HK2.out; omega
         case rel => exact ⟨wrap64 (x + 1), _, rfl, H', ⟨by have := HK1.out; have := HK2.out; omega⟩, HBu3, HB3⟩
     · rw [if_neg c3] at H; cases H
    ·
     rw [if_neg c2] at H; have c2b : decide (x < (l0.length : Int)) = false := decide_eq_false c2; clear c2; obtain ⟨rfl, rfl⟩ := Prod.mk.inj (Option.some.inj H); go_wp2_with (go_at_call 51; refine (Tryd.Builder_String_any_k _ _ acc _ HBu.out (bld_size HBu.out)).mono ?_)
     intro e w9 he hq1 hb9 hq2; subst he; go_wp2; go_ret2
     exact ⟨rfl, below_mine HB.out hb9 HW1.out⟩
def spilelaw22_awake.f : Option Bool := some true
def awakeLots (a : Int) : List S33 := [⟨7, ⟨30, 100⟩, [⟨2, 10⟩, ⟨5, a⟩]⟩]
theorem awakeLots_C {w : World} {gA gB : Nat} {a : Int} (hA : w.heap[gA]? = some (.cells #[.int .i64 2, .int .i64 10, .int .i64 5, .int .i64 a] 35 (0, 0))) (hB : w.heap[gB]? = some (.cells #[.int .i64 7, .int .i64 30, .int .i64 100, .slice (some ⟨gA, 0, none⟩) 2 2] 33 (0, 0))) :
  Kd.C k33 w (some ⟨gB, 0, none⟩) (awakeLots a).length (awakeLots a) := by
 have hs : k35.C w (some ⟨gA, 0, none⟩) 2 [⟨2, 10⟩, ⟨5, a⟩] := by
  refine ⟨rfl, by decide, fun _ => ⟨_, rfl, ?_⟩⟩
  intro j p hp
  match j, hp with
  | 0, hp =>
   obtain rfl := Option.some.inj hp
   refine ⟨[.int .i64 2, .int .i64 10], rfl, k35_mk w ⟨2, 10⟩, ?_⟩
   intro i u hu
   match i, hu with
   | 0, hu => obtain rfl := Option.some.inj hu; exact (blk_cell hA 0).trans rfl
   | 1, hu => obtain rfl := Option.some.inj hu; exact (blk_cell hA 1).trans rfl
   | i + 2, hu => simp at hu
  | 1, hp =>
   obtain rfl := Option.some.inj hp
   refine ⟨[.int .i64 5, .int .i64 a], rfl, k35_mk w ⟨5, a⟩, ?_⟩
   intro i u hu
   match i, hu with
   | 0, hu => obtain rfl := Option.some.inj hu; exact (blk_cell hA 2).trans rfl
   | 1, hu => obtain rfl := Option.some.inj hu; exact (blk_cell hA 3).trans rfl
   | i + 2, hu => simp at hu
  | j + 2, hp => simp at hp
 refine ⟨rfl, (by show (1 : Nat) ≤ 9223372036854775807; decide), fun _ => ⟨_, rfl, ?_⟩⟩
 intro j p hp
 match j, hp with
 | 0, hp =>
  obtain rfl := Option.some.inj hp
  refine ⟨[.int .i64 7, .int .i64 30, .int .i64 100, .slice (some ⟨gA, 0, none⟩) 2 2], rfl, k33_mk w ⟨7, ⟨30, 100⟩, [⟨2, 10⟩, ⟨5, a⟩]⟩ (Nat.le_refl _) hs, ?_⟩
  intro i u hu
  match i, hu with
  | 0, hu => obtain rfl := Option.some.inj hu; exact (blk_cell hB 0).trans rfl
  | 1, hu => obtain rfl := Option.some.inj hu; exact (blk_cell hB 1).trans rfl
  | 2, hu => obtain rfl := Option.some.inj hu; exact (blk_cell hB 2).trans rfl
  | 3, hu => obtain rfl := Option.some.inj hu; exact (blk_cell hB 3).trans rfl
  | i + 4, hu => simp at hu
 | j + 1, hp => simp [awakeLots] at hp
set_option maxHeartbeats 8000000 in
set_option maxRecDepth 100000 in
theorem spilelaw22_awake.calls (r : Bool) (w : World) (hG : GI w) (h : spilelaw22_awake.f = some r) :
  Calls Tryd.prog 10 #[] w fun e w' => e = .returned (.bool r) ∧ Below w.heap.size w w' := by
 obtain rfl := Option.some.inj h; clear h; obtain ⟨W1, hW1⟩ : ∃ W1, W1 = (w.alloc (.cells #[.int .i64 2, .int .i64 10, .int .i64 5, .int .i64 20] 35)).alloc (.cells #[.int .i64 7, .int .i64 30, .int .i64 100, .slice (some ⟨w.heap.size, 0, none⟩) 2 2] 33) := ⟨_, rfl⟩; have hb1 : Below w.heap.size w W1 := by rw [hW1]; exact below_alloc (below_alloc (Below.refl _ _) _) _
 have hA1 : W1.heap[w.heap.size]? = some (.cells #[.int .i64 2, .int .i64 10, .int .i64 5, .int .i64 20] 35 (0, 0)) := by rw [hW1]; exact blk_alloc (blk_new w _) _
 have hB1 : W1.heap[w.heap.size + 1]? = some (.cells #[.int .i64 7, .int .i64 30, .int .i64 100, .slice (some ⟨w.heap.size, 0, none⟩) 2 2] 33 (0, 0)) := by
  rw [hW1]; have := blk_new (w.alloc (.cells #[.int .i64 2, .int .i64 10, .int .i64 5, .int .i64 20] 35)) (.cells #[.int .i64 7, .int .i64 30, .int .i64 100, .slice (some ⟨w.heap.size, 0, none⟩) 2 2] 33); rwa [show (w.alloc (.cells #[.int .i64 2, .int .i64 10, .int .i64 5, .int .i64 20] 35)).heap.size = w.heap.size + 1 from by first | exact Array.size_push _ | rfl | simp] at this
 have hsz1 : W1.heap.size = w.heap.size + 1 + 1 := by rw [hW1]; first | rfl | (exact (Array.size_push _).trans (congrArg (· + 1) (Array.size_push _))) | simp
 have HB1 := Aside0.mk hb1; have HA1 := Aside0.mk hA1; have HBB1 := Aside0.mk hB1; have HG1 := Aside0.mk (GI.below hG hb1); clear hb1 hA1 hB1 hG; have hP : lot_Print.f 400 (awakeLots 20) = some ((⟨#[108, 111, 116, 32, 55, 32, 109, 97, 115, 115, 32, 49, 48, 48, 32, 102, 105, 108, 108, 32, 50, 32, 97, 108, 99, 111, 104, 111, 108, 32, 49, 48, 32, 102, 105, 108, 108, 32, 53, 32, 97, 108, 99, 111, 104, 111, 108, 32, 50, 48, 10]⟩ : ByteArray), 0) := by kernel_rfl
 have hO : lot_Of.f 400 (awakeLots 20) 5 = some (20, 0) := by kernel_rfl
 have hK : lot_Check.f 400 (awakeLots 21) = some (0, 14) := by kernel_rfl
 have HP := Aside0.mk hP; have HO := Aside0.mk hO; have HK := Aside0.mk hK; clear hP hO hK; go_enter Tryd.func10, Tryd.ntmps10
 go_wp2_with (go_at_call 30; rw [← hW1]; refine (lot_Print.calls 400 (some ⟨w.heap.size + 1, 0, none⟩) 1 (awakeLots 20) _ _ W1 (awakeLots_C HA1.out HBB1.out) (Nat.le_refl _) HG1.out HP.out).mono ?_)
 intro e W2 he hb2; subst he; rw [← hW1, ← hsz1] at hb2; have HA2 := Aside0.mk ((hb2.block _ (blk_lt HA1.out)).trans HA1.out); have HBB2 := Aside0.mk ((hb2.block _ (blk_lt HBB1.out)).trans HBB1.out); have HB2 := Aside0.mk (below_step HB1.out hb2); clear hb2; go_wp2_with (go_at_call 13; refine (lot_Of.calls 400 (some ⟨w.heap.size + 1, 0, none⟩) 1 (awakeLots 20) 5 _ _ W2 (awakeLots_C HA2.out HBB2.out) (Nat.le_refl _) HO.out).mono ?_)
 rintro e W3 ⟨rfl, hb3⟩; have hA3 := (hb3.block _ (blk_lt HA2.out)).trans HA2.out; have hB3 := (hb3.block _ (blk_lt HBB2.out)).trans HBB2.out; have HB3 := Aside0.mk (below_step HB2.out hb3); have HA3 := Aside0.mk hA3; have HBB3 := Aside0.mk hB3; have hc0 : W3.cell? ⟨w.heap.size + 1, 3, none⟩ = some (.slice (some ⟨w.heap.size, 0, none⟩) 2 2) := (blk_cell hB3 3).trans rfl; have hc1 : W3.cell? ⟨w.heap.size, 3, none⟩ = some (.int .i64 20) := (blk_cell hA3 3).trans rfl; have hf1 := blk_frozen hA3 3; clear hb3 hA3 hB3; have HA4 : Aside0 ((W3.setCell ⟨w.heap.size, 3, none⟩ (.int .i64 21)).heap[w.heap.size]? = some (.cells #[.int .i64 2, .int .i64 10, .int .i64 5, .int .i64 21] 35 (0, 0))) := ⟨blk_put (cs := #[.int .i64 2, .int .i64 10, .int .i64 5, .int .i64 20]) HA3.out 3 _ rfl⟩; have HBB4 : Aside0 ((W3.setCell ⟨w.heap.size, 3, none⟩ (.int .i64 21)).heap[w.heap.size + 1]? = some (.cells #[.int .i64 7, .int .i64 30, .int .i64 100, .slice (some ⟨w.heap.size, 0, none⟩) 2 2] 33 (0, 0))) := ⟨blk_far HBB3.out (Nat.succ_ne_self _) _⟩; have HB4 : Aside0 (Below w.heap.size w (W3.setCell ⟨w.heap.size, 3, none⟩ (.int .i64 21))) := ⟨HB3.out.setCell (p := ⟨w.heap.size, 3, none⟩) (Nat.le_refl _) _⟩; go_wp2_with (go_at_call 14; refine (lot_Check.calls 400 (some ⟨w.heap.size + 1, 0, none⟩) 1 (awakeLots 21) _ _ (W3.setCell ⟨w.heap.size, 3, none⟩ (.int .i64 21)) (awakeLots_C HA4.out HBB4.out) (Nat.le_refl _) HK.out).mono ?_)
 rintro e W5 ⟨rfl, hb5⟩; have HB5 := Aside0.mk (below_step HB4.out hb5); clear hb5 hc0 hc1 hf1; go_wp2; go_ret
 exact ⟨by first | rfl | (simp; done) | decide, HB5.out⟩
end Go.Proofs.YtgjoenoknknoiaaDoor.Pr
namespace Go.Proofs.YtgjoenoknknoiaaDoor.Pr
open Go.RowKit Go.Proofs.YtgjoenoknknoiaaDoorW.PrintWords Go.Proofs.YtgjoenoknknoiaaDoorW.PrintLast Go.Proofs.YtgjoenoknknoiaaDoorW.PrintMore Go.Proofs.YtgjoenoknknoiaaDoor.X
attribute [local go_sem] max2_int min2_int max_two min_two max_three min_three max_four min_four   -- for this text's walks alone
set_option linter.unusedVariables false
set_option linter.unusedSimpArgs false
def spileref22_FewShares.f (l0 : List (S35)) : Option (Bool) := if (l0.length : Int) ≤ 12 then (some true) else (if (l0.length : Int) > 32 then (some (decide ((l0.length : Int) ≤ 37))) else (some false))
set_option maxHeartbeats 8000000 in
set_option maxRecDepth 100000 in
theorem spileref22_FewShares.calls (A0 : Option Addr) (c0 : Nat) (l0 : List (S35)) (r : Bool) (w : World) (hr0 : Kd.C k35 w A0 l0.length l0) (hc0 : l0.length ≤ c0) (h : spileref22_FewShares.f l0 = some r) :
  Calls Tryd.prog 21 #[.slice A0 l0.length c0] w fun e w' => e = .returned (.bool r) ∧ Drawn0 w w' := by
 have HR0 := Aside0.mk hr0; have HC0 := Aside0.mk hc0; clear hr0 hc0; have H : (if (l0.length : Int) ≤ 12 then (some true) else (if (l0.length : Int) > 32 then (some (decide ((l0.length : Int) ≤ 37))) else (some false))) = some r := h; clear h; by_cases c2 : (l0.length : Int) ≤ 12
 ·
  rw [if_pos c2] at H; have c2b0 : decide ((l0.length : Int) ≤ 12) = true := decide_eq_true c2; have c2b1 : decide (l0.length ≤ 12) = true := decide_eq_true (by omega); clear c2; obtain rfl := Option.some.inj H; go_enter Tryd.func21, Tryd.ntmps21
  go_wp2; go_ret
  exact ⟨by first | rfl | (simp; done) | (simp [*]; done), by repeat (first | exact Drawn0.refl _ | apply Drawn0.step)⟩
 ·
  rw [if_neg c2] at H; have c2b0 : decide ((l0.length : Int) ≤ 12) = false := decide_eq_false c2; have c2b1 : decide (l0.length ≤ 12) = false := decide_eq_false (by omega); clear c2; by_cases c3 : (l0.length : Int) > 32
  ·
   rw [if_pos c3] at H; have c3b0 : decide (32 < (l0.length : Int)) = true := decide_eq_true c3; have c3b1 : decide (32 < l0.length) = true := decide_eq_true (by omega); clear c3; obtain rfl := Option.some.inj H; go_enter Tryd.func21, Tryd.ntmps21
   go_wp2; go_ret
   exact ⟨by first | rfl | (simp; done) | (simp [*]; done), by repeat (first | exact Drawn0.refl _ | apply Drawn0.step)⟩
  ·
   rw [if_neg c3] at H; have c3b0 : decide (32 < (l0.length : Int)) = false := decide_eq_false c3; have c3b1 : decide (32 < l0.length) = false := decide_eq_false (by omega); clear c3; obtain rfl := Option.some.inj H; go_enter Tryd.func21, Tryd.ntmps21
   go_wp2; go_ret
   exact ⟨by first | rfl | (simp; done) | (simp [*]; done), by repeat (first | exact Drawn0.refl _ | apply Drawn0.step)⟩
mutual
def spileref22_Few.j0 : Nat → List (S33) → Bool → Option (Bool)
 | 0, _, _ => none
 | k + 1, x0, x16 => if x16 = true then (some false) else (spileref22_Few.l0 k x0 0)
def spileref22_Few.l0 : Nat → List (S33) → Int → Option (Bool)
 | 0, _, _ => none
 | k + 1, x0, x3 => if x3 < (x0.length : Int) then (if 0 ≤ x3 then ((spileref22_FewShares.f ((rd_T33 x0 x3).f2)).bind fun t141 => (if t141 = true then (spileref22_Few.l0 k x0 (wrap64 (x3 + 1))) else (some false))) else (none)) else (some true)
end
def spileref22_Few.f (k : Nat) (l0 : List (S33)) : Option (Bool) := if (l0.length : Int) > 8 then (if (l0.length : Int) ≤ 32 then (spileref22_Few.j0 k l0 true) else (spileref22_Few.j0 k l0 (decide ((l0.length : Int) > 37)))) else (spileref22_Few.j0 k l0 (decide ((l0.length : Int) > 37)))
set_option maxHeartbeats 8000000 in
set_option maxRecDepth 100000 in
theorem spileref22_Few.calls (k : Nat) (A0 : Option Addr) (c0 : Nat) (l0 : List (S33)) (r : Bool) (w : World) (hr0 : Kd.C k33 w A0 l0.length l0) (hc0 : l0.length ≤ c0) (h : spileref22_Few.f k l0 = some r) :
  Calls Tryd.prog 11 #[.slice A0 l0.length c0] w fun e w' => e = .returned (.bool r) ∧ Drawn0 w w' := by
 have HR0 := Aside0.mk hr0; have HC0 := Aside0.mk hc0; clear hr0 hc0; have H : (if (l0.length : Int) > 8 then (if (l0.length : Int) ≤ 32 then (spileref22_Few.j0 k l0 true) else (spileref22_Few.j0 k l0 (decide ((l0.length : Int) > 37)))) else (spileref22_Few.j0 k l0 (decide ((l0.length : Int) > 37)))) = some r := h; clear h; have HC2 := Aside0.mk H; clear H; go_enter Tryd.func11, Tryd.ntmps11
 go_upto_region 1 with (fail)
 go_cut [16] (fun v16 wc => ∃ (kq : Nat) (x16_1 : Bool), v16 = .bool x16_1 ∧ Aside0 (spileref22_Few.j0 kq l0 x16_1 = some r) ∧ Aside0 (kq ≤ k) ∧ Drawn0 w wc)
 case first =>
  have H := HC2.out; clear HC2; by_cases c3 : (l0.length : Int) > 8
  ·
   rw [if_pos c3] at H; have c3b0 : decide (8 < (l0.length : Int)) = true := decide_eq_true c3; have c3b1 : decide (8 < l0.length) = true := decide_eq_true (by omega); clear c3; (first | rw [c3b0] | (simp only [i64_w, i32_w]; rw [c3b0]) | skip)
   by_cases c4 : (l0.length : Int) ≤ 32
   ·
    rw [if_pos c4] at H; have c4b0 : decide ((l0.length : Int) ≤ 32) = true := decide_eq_true c4; have c4b1 : decide (l0.length ≤ 32) = true := decide_eq_true (by omega); clear c4; have H' := Aside0.mk H; clear H; go_wp2; go_meet
    case rel => exact ⟨_, (true), (by first | rfl | (simp; done) | (simp [*]; done)), H', ⟨by first | omega | exact Nat.le_refl _⟩, by repeat (first | exact Drawn0.refl _ | apply Drawn0.step)⟩
   ·
    rw [if_neg c4] at H; have c4b0 : decide ((l0.length : Int) ≤ 32) = false := decide_eq_false c4; have c4b1 : decide (l0.length ≤ 32) = false := decide_eq_false (by omega); clear c4; have H' := Aside0.mk H; clear H; go_wp2; go_meet
    case rel => exact ⟨_, (decide ((l0.length : Int) > 37)), (by first | rfl | (simp; done) | (simp [*]; done)), H', ⟨by first | omega | exact Nat.le_refl _⟩, by repeat (first | exact Drawn0.refl _ | apply Drawn0.step)⟩
  ·
   rw [if_neg c3] at H; have c3b0 : decide (8 < (l0.length : Int)) = false := decide_eq_false c3; have c3b1 : decide (8 < l0.length) = false := decide_eq_false (by omega); clear c3; (first | rw [c3b0] | (simp only [i64_w, i32_w]; rw [c3b0]) | skip)
   have H' := Aside0.mk H; clear H; go_wp2; go_meet
   case rel => exact ⟨_, (decide ((l0.length : Int) > 37)), (by first | rfl | (simp; done) | (simp [*]; done)), H', ⟨by first | omega | exact Nat.le_refl _⟩, by repeat (first | exact Drawn0.refl _ | apply Drawn0.step)⟩
 case rest =>
  clear HC2; try clear c1
  try clear p2
  try clear c3
  try clear c3b0
  try clear c3b1
  try clear c4
  try clear c4b0
  try clear c4b1
  obtain ⟨kq, x16_1, rfl, HA, HJ1, ⟨mc1, rfl⟩⟩ := hcut
  cases kq with
  | zero => exact absurd HA.out (by simp [spileref22_Few.j0])
  | succ kj1 =>
   have H := HA.out; clear HA; simp only [spileref22_Few.j0] at H; by_cases c5 : x16_1 = true
   ·
    subst c5; have H1 : (some false) = some r := by rw [if_pos rfl] at H; exact H
    clear H; have H := H1; clear H1; obtain rfl := Option.some.inj H; go_wp2; go_ret
    exact ⟨by first | rfl | (simp; done) | (simp [*]; done), by repeat (first | exact Drawn0.refl _ | apply Drawn0.step)⟩
   ·
    replace c5 := Bool.eq_false_iff.mpr c5; subst c5; have H1 : (spileref22_Few.l0 kj1 l0 0) = some r := by rw [if_neg (show ¬ (false = true) by decide)] at H; exact H
    clear H; have H := H1; clear H1; have H' := Aside0.mk H; clear H; go_wp2; go_loopg [3] kj1 (fun kq v3 w' => ∃ (x3_2 : Int), v3 = .int .i64 x3_2 ∧ Aside0 (spileref22_Few.l0 kq l0 x3_2 = some r) ∧ Aside0 (kq ≤ kj1) ∧ Drawn0 w w')
    case atStart => exact ⟨(0), (by first | rfl | (simp; done) | (simp [*]; done)), H', ⟨Nat.le_refl _⟩, by repeat (first | exact Drawn0.refl _ | apply Drawn0.step)⟩
    case round =>
     clear H'; try clear c1
     try clear p2
     try clear c3
     try clear c3b0
     try clear c3b1
     try clear c4
     try clear c4b0
     try clear c4b1
     try clear c5
     try clear p2
     obtain ⟨x3_2, rfl, HA, HK2, ⟨m2, rfl⟩⟩ := hrel
     cases gk with
     | zero => exact absurd HA.out (by simp [spileref22_Few.l0])
     | succ k2 =>
      have H := HA.out; clear HA; simp only [spileref22_Few.l0] at H; by_cases c6 : x3_2 < (l0.length : Int)
      ·
       rw [if_pos c6] at H; have c6b0 : decide (x3_2 < (l0.length : Int)) = true := decide_eq_true c6; clear c6; by_cases c7 : 0 ≤ x3_2
       ·
        rw [if_pos c7] at H; have c7b0 : decide (0 ≤ x3_2) = true := decide_eq_true c7; clear c7; replace H := Option.bind_eq_some_iff.mp H; obtain ⟨t141, A80, H⟩ := H; replace H : (if t141 = true then (spileref22_Few.l0 k2 l0 (wrap64 (x3_2 + 1))) else (some false)) = some r := H; have A8 := Aside0.mk A80; clear A80; by_cases c9 : t141 = true
        ·
         subst c9; have H1 : (spileref22_Few.l0 k2 l0 (wrap64 (x3_2 + 1))) = some r := by rw [if_pos rfl] at H; exact H
         clear H; have H := H1; clear H1; have H' := Aside0.mk H; clear H; have p140 : 0 ≤ (x3_2 : Int) := of_decide_eq_true (by first | (with_reducible assumption) | assumption); have q140 : x3_2 < (l0.length : Int) := of_decide_eq_true (by first | (with_reducible assumption) | assumption); obtain ⟨ad140, A140_3, c140_3, e140, hx140_0, hx140_1, hx140_2, hx140_3, hl140_3, hi140_3⟩ := at_T33 HR0.out x3_2 p140 q140; cases e140; have HR140_3 := Aside0.mk hi140_3; have HC140_3 := Aside0.mk hl140_3; clear hi140_3 hl140_3; replace p140 := eq_true p140; replace q140 := eq_true q140; go_wp2_with (first | ((with_reducible refine gate_callee (f := 21) rfl ?_); refine goesL_ (some 28) rfl rfl Tryd.func21 (by kernel_rfl) rfl #[.slice A140_3 ((rd_T33 l0 x3_2).f2).length c140_3] rfl (by (try simp only [List.map_toArray, List.map_cons, List.map_nil]); first | done | rfl | (simp only [List.length_drop, List.length_take]; rfl)) ?_; (with_reducible refine (spileref22_FewShares.calls _ _ ((rd_T33 l0 x3_2).f2) true _ ?side1 ?side2 A8.out).mono ?_); (case side1 => repeat (first | exact HR140_3.out | (with_reducible refine Kd.C_alloc ?_ _) | (with_reducible refine Kd.C_drewN ?_ _) | (with_reducible refine Kd.C_drew ?_))); (case side2 => exact HC140_3.out); rintro e w' ⟨rfl, ⟨nd, rfl⟩⟩; refine ⟨_, rfl, ?_⟩))
         go_roundg k2
         case measure => have := HJ1.out; have := HK2.out; omega
         case rel => exact ⟨(wrap64 (x3_2 + 1)), (by first | rfl | (simp; done) | (simp [*]; done)), H', ⟨by have := HJ1.out; have := HK2.out; omega⟩, by repeat (first | exact Drawn0.refl _ | apply Drawn0.step)⟩
        ·
         replace c9 := Bool.eq_false_iff.mpr c9; subst c9; have H1 : (some false) = some r := by rw [if_neg (show ¬ (false = true) by decide)] at H; exact H
         clear H; have H := H1; clear H1; obtain rfl := Option.some.inj H; have p140 : 0 ≤ (x3_2 : Int) := of_decide_eq_true (by first | (with_reducible assumption) | assumption); have q140 : x3_2 < (l0.length : Int) := of_decide_eq_true (by first | (with_reducible assumption) | assumption); obtain ⟨ad140, A140_3, c140_3, e140, hx140_0, hx140_1, hx140_2, hx140_3, hl140_3, hi140_3⟩ := at_T33 HR0.out x3_2 p140 q140; cases e140; have HR140_3 := Aside0.mk hi140_3; have HC140_3 := Aside0.mk hl140_3; clear hi140_3 hl140_3; replace p140 := eq_true p140; replace q140 := eq_true q140; go_wp2_with (first | ((with_reducible refine gate_callee (f := 21) rfl ?_); refine goesL_ (some 28) rfl rfl Tryd.func21 (by kernel_rfl) rfl #[.slice A140_3 ((rd_T33 l0 x3_2).f2).length c140_3] rfl (by (try simp only [List.map_toArray, List.map_cons, List.map_nil]); first | done | rfl | (simp only [List.length_drop, List.length_take]; rfl)) ?_; (with_reducible refine (spileref22_FewShares.calls _ _ ((rd_T33 l0 x3_2).f2) false _ ?side1 ?side2 A8.out).mono ?_); (case side1 => repeat (first | exact HR140_3.out | (with_reducible refine Kd.C_alloc ?_ _) | (with_reducible refine Kd.C_drewN ?_ _) | (with_reducible refine Kd.C_drew ?_))); (case side2 => exact HC140_3.out); rintro e w' ⟨rfl, ⟨nd, rfl⟩⟩; refine ⟨_, rfl, ?_⟩))
         go_ret
         exact ⟨by first | rfl | (simp; done) | (simp [*]; done), by repeat (first | exact Drawn0.refl _ | apply Drawn0.step)⟩
       · rw [if_neg c7] at H; exact absurd H (by simp)
      ·
       rw [if_neg c6] at H; have c6b0 : decide (x3_2 < (l0.length : Int)) = false := decide_eq_false c6; clear c6; obtain rfl := Option.some.inj H; go_wp2; go_ret
       exact ⟨by first | rfl | (simp; done) | (simp [*]; done), by repeat (first | exact Drawn0.refl _ | apply Drawn0.step)⟩
def spileref22_ID.f (a0 : Int) : Option (Bool) := if a0 ≥ 1 then (some (decide (a0 ≤ 1073741824))) else (some false)
def spileref21_Plain.f (a0_0 : Int) (a0_1 : Int) : Option (Bool) := if a0_0 ≥ 0 then (if a0_0 ≤ 10737418240000 then (if a0_1 ≥ 0 then (if a0_1 ≤ 128849018880000 then (if a0_1 > 0 then (some true) else (some (a0_0 == 0))) else (some false)) else (some false)) else (some false)) else (some false)
end Go.Proofs.YtgjoenoknknoiaaDoor.Pr
