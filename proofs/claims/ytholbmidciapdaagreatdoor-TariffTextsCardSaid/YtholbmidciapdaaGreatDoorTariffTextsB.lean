/-
A part of what these laws rest on: contracts of the functions that they reach, and plain lemmas.
-/
import Derived.Test.YtholbmidciapdaaGreatDoorProg
import Derived.ChangeArms
import Derived.DataReads
import Derived.Lib.LaidTab
import Derived.Lib.SmallJoins
import Derived.Carry
import Derived.Test.YtholbmidciapdaaGreatDoorRows
import Derived.Lib.ItoaNum
import Derived.LaidLaws
import Derived.Shelf.Vars
import Derived.Lib.LazyBuf
import Derived.Shelf.Strings.Builder1
import Derived.Shelf.Strings.Trim
import Derived.Shelf.Small.Utf8
import Derived.Shelf.Small.Strs
import Derived.Shelf.Strings.BuilderF
import Derived.Shelf.Strings.BuilderK
import Derived.Shelf.Strconv.Atoi
import Derived.Shelf.Strconv.Itoa0
import Derived.Shelf.Strconv.Itoa1
import Derived.Shelf.LaysM
import Derived.Shelf.Strconv.Itoa2
import Derived.Shelf.Strconv.Itoa3
import Derived.Shelf.Strconv.AtoiErrFast
import Derived.Shelf.Strconv.ParseIntEmpty
import Derived.Shelf.Strconv.AtoiFail
import Derived.Shelf.Strconv.Clone
import Derived.Shelf.Strconv.SyntaxError
import Derived.Shelf.LaysC
import Derived.Shelf.Strconv.ToError
import Derived.Shelf.Strconv.Lower
import Derived.Shelf.Strconv.ParseUint10
import Derived.Shelf.Strconv.ParseUint10Empty
import Derived.Shelf.Strconv.ParseUint10Any
import Derived.Shelf.Strconv.ParseInt10
import Derived.Shelf.Strconv.AtoiLong
import Derived.Shelf.Strconv.AtoiInnerAll
import Derived.Shelf.Strconv.RangeError
import Derived.Shelf.Strconv.ToErrorRange
import Derived.Shelf.Strconv.AtoiAll
import Derived.Shelf.Strconv.ErrVarAll
import Derived.Shelf.Strings.Search1
import Derived.Shelf.Strings.Search2
import Derived.Shelf.Strings.Search3
import Derived.Shelf.Strings.Cut
import Derived.Shelf.Strings.Count
import Derived.Shelf.Strings.Shaped
import Derived.Shelf.Strings.Prefix
import Derived.Shelf.Strings.Split
import Derived.Shelf.Strings.SplitShaped
import Derived.Shelf.Strings.Runes
import Derived.Shelf.Strings.AsciiSet
import Derived.Shelf.Bits.Mul64
import Derived.Shelf.Unicode.DecodeSlow
import Derived.Test.YtholbmidciapdaaGreatDoorTariffTextsA
set_option linter.unusedVariables false
set_option linter.unusedSimpArgs false
namespace Go.Proofs.YtholbmidciapdaaGreatDoor.Pr
open Go.RowKit Go.Proofs.YtholbmidciapdaaGreatDoorW.PrintWords Go.Proofs.YtholbmidciapdaaGreatDoorW.PrintLast Go.Proofs.YtholbmidciapdaaGreatDoorW.PrintMore
attribute [local go_sem] uR uP kP kO jN jM uQ uO   -- for this text's walks alone
set_option linter.unusedVariables false
set_option linter.unusedSimpArgs false
def errW : Option Int → Value
 | none => .nilIface
 | some c => .iface 0 (.int .i64 c)
theorem zN : errW none = .nilIface := rfl
theorem zM (c : Int) : errW (some c) = .iface 0 (.int .i64 c) := rfl
theorem info3 : (Tryz.prog.info? 3).map (fun i => (i.zero, i.size, i.bytes)) = some (some (.int .i64 0), 1, 8) := by kernel_rfl
theorem info9 : (Tryz.prog.info? 9).map (fun i => (i.zero, i.size, i.bytes)) = some (some (.string ⟨#[]⟩), 1, 16) := by kernel_rfl
theorem zAA : (Tryz.prog.info? 26).map (fun i => (i.zero, i.size, i.bytes)) = some (some (.agg #[(.int .i64 0), (.int .i64 0), (.int .i64 0)]), 3, 24) := by kernel_rfl
structure S26 where
 f0 : Int
 f1 : Int
 f2 : Int
def z26 : S26 := ⟨(0 : Int), (0 : Int), (0 : Int)⟩
def k26 : Kd S26 := Kd.iso (Kd.pair (Kd.int .i64) (Kd.pair (Kd.int .i64) (Kd.int .i64))) (fun x : S26 => (x.f0, x.f1, x.f2))
theorem k26_open {w : World} {x : S26} {cs : List Value} (h : k26.K w x cs) : cs = [.int .i64 x.f0, .int .i64 x.f1, .int .i64 x.f2] := by
 obtain ⟨_, _, rfl, rfl, ⟨_, _, rfl, rfl, rfl⟩⟩ := h
 exact rfl
theorem zKR {w : World} {base : Nat} {ok : Nat → Prop} {x : S26} {cs : List Value} (h : k26.M w base ok x cs) : cs = [.int .i64 x.f0, .int .i64 x.f1, .int .i64 x.f2] := by
 obtain ⟨_, _, rfl, rfl, ⟨_, _, rfl, rfl, rfl⟩⟩ := h
 exact rfl
theorem k26_mk (w : World) (x : S26)  : k26.K w x [.int .i64 x.f0, .int .i64 x.f1, .int .i64 x.f2] := ⟨[.int .i64 x.f0], [.int .i64 x.f1, .int .i64 x.f2], rfl, rfl, ⟨[.int .i64 x.f1], [.int .i64 x.f2], rfl, rfl, rfl⟩⟩
theorem jL (w : World) (base : Nat) (ok : Nat → Prop) (x : S26)  : k26.M w base ok x [.int .i64 x.f0, .int .i64 x.f1, .int .i64 x.f2] := ⟨[.int .i64 x.f0], [.int .i64 x.f1, .int .i64 x.f2], rfl, rfl, ⟨[.int .i64 x.f1], [.int .i64 x.f2], rfl, rfl, rfl⟩⟩
def zH (xs : List S26) (i : Int) : S26 := xs.getD i.toNat z26
theorem uM {w : World} {A : Option Addr} {n : Nat} {xs : List S26} (h : Kd.C k26 w A n xs) (i : Int) (h0 : 0 ≤ i) (h1 : i < n) : ∃ ad , A = some ad ∧ w.cell? (ad.add (i.toNat * 3)) = some (.int .i64 (zH xs i).f0) ∧ w.cell? ⟨(ad.add (i.toNat * 3)).block, (ad.add (i.toNat * 3)).off + 1, none⟩ = some (.int .i64 (zH xs i).f1) ∧ w.cell? ⟨(ad.add (i.toNat * 3)).block, (ad.add (i.toNat * 3)).off + 2, none⟩ = some (.int .i64 (zH xs i).f2) := by
 obtain ⟨ad, c, e, _, hK, hc0⟩ := Kd.C_get h z26 i h0 h1
 have hc : ∀ j u, c[j]? = some u → w.cell? (ad.add (i.toNat * 3 + j)) = some u := hc0
 obtain rfl := k26_open hK
 exact ⟨ad, e, hc 0 _ rfl, by rw [← zQX _ _ 1 (by omega)]; exact hc 1 _ rfl, by rw [← zQX _ _ 2 (by omega)]; exact hc 2 _ rfl⟩
structure S24 where
 f0 : Int
 f1 : (List S26)
def k24 : Kd S24 := Kd.iso (Kd.pair (Kd.int .i64) (Kd.slice 26 k26)) (fun x : S24 => (x.f0, x.f1))
theorem k24_open {w : World} {x : S24} {cs : List Value} (h : k24.K w x cs) : ∃ A1 c1, cs = [.int .i64 x.f0, .slice A1 x.f1.length c1] ∧ x.f1.length ≤ c1 ∧ k26.C w A1 x.f1.length x.f1 := by
 obtain ⟨_, _, rfl, rfl, ⟨A1, c1, rfl, l1, g1⟩⟩ := h
 exact ⟨A1, c1, rfl, l1, g1⟩
theorem k24_mk (w : World) (x : S24) {A1 : Option Addr} {c1 : Nat} (l1 : x.f1.length ≤ c1) (g1 : k26.C w A1 x.f1.length x.f1) : k24.K w x [.int .i64 x.f0, .slice A1 x.f1.length c1] := ⟨[.int .i64 x.f0], [.slice A1 x.f1.length c1], rfl, rfl, ⟨A1, c1, rfl, l1, g1⟩⟩
end Go.Proofs.YtholbmidciapdaaGreatDoor.Pr
namespace Go.Proofs.YtholbmidciapdaaGreatDoor.O
open Go Go.RowKit Go.Proofs.YtholbmidciapdaaGreatDoorW.PrintWords
/-- What reads as data at type t reads as a value of kind d that is ok. -/
def zVE {α : Type} (P : Program) (t : TypeId) (d : Kd α) (ok : α → Prop) : Prop :=
  P.cellsOf t = d.sz ∧ ∀ (H : Type) (enc : TypeId × Value → H) (w : World) (base : Nat) (sp : Nat → Bool) (held : Bool) (fuel : Nat) (cs : List Value) (x : DataW H × List MemPlace),
    DataW.trod enc P w base sp held fuel t cs = some x → ∃ v : α, d.K w v cs ∧ ok v
theorem zYP {P : Program} {t : TypeId} {k : IntKind} (ht : P.underlying t = some (.int k)) (hc : P.cellsOf t = 1) : zVE P t (Kd.int k) (fun x => (Lit.int k x).wf = true) :=
  ⟨hc, fun H enc w base sp held fuel cs x h => by
    obtain ⟨n, rfl, _, hw⟩ := DataW.trod_int ht h
    exact ⟨n, rfl, hw⟩⟩
theorem zVB {α : Type} (n : Nat) (p : Nat → α → Prop) (h : ∀ i, i < n → ∃ v, p i v) : ∃ vs : List α, vs.length = n ∧ ∀ i v, vs[i]? = some v → p i v := by
  induction n with
  | zero => exact ⟨[], rfl, fun i v hv => by simp at hv⟩
  | succ n ih =>
    obtain ⟨vs, hl, hp⟩ := ih (fun i hi => h i (by omega))
    obtain ⟨v, hv⟩ := h n (by omega)
    refine ⟨vs ++ [v], by simp [hl], fun i u hu => ?_⟩
    rcases Nat.lt_or_ge i n with hi | hi
    · rw [List.getElem?_append_left (by omega)] at hu
      exact hp i u hu
    · rw [List.getElem?_append_right (by omega)] at hu
      have hi0 : i = n := by
        have := (List.getElem?_eq_some_iff.1 hu).1
        simp at this
        omega
      subst hi0
      rw [hl] at hu
      simp at hu
      subst hu
      exact hv
theorem zRT {α : Type} {P : Program} {t e : TypeId} {d : Kd α} {ok : α → Prop} (ht : P.underlying t = some (.slice e)) (hc : P.cellsOf t = 1) (hO : zVE P e d ok) :
    zVE P t (Kd.slice e d) (fun xs => xs.length ≤ maxLen ∧ ∀ x, x ∈ xs → ok x) :=
  ⟨hc, fun H enc w base sp held fuel cs x h => by
    rcases DataW.trod_slice ht h with ⟨rfl, _⟩ | ⟨a, len, cap, elems, rest, n, _, rfl, _, hb, hl, hm, hel, hget, _, _⟩
    · exact ⟨[], ⟨none, 0, rfl, Nat.le_refl _, rfl, by simp, fun h0 => absurd h0 (by simp)⟩, by simp, fun x hx => absurd hx (by simp)⟩
    · obtain ⟨vs, hvl, hv⟩ := zVB len (fun i v => (∃ c, c.length = d.sz ∧ d.K w v c ∧ ∀ j u, c[j]? = some u → w.cell? (a.add (i * d.sz + j)) = some u) ∧ ok v) (fun i hi => by
        have hg := hget i hi
        obtain ⟨y, hy⟩ : ∃ y, elems[i]? = some y := ⟨elems[i]'(by omega), List.getElem?_eq_getElem (by omega)⟩
        rw [hy] at hg
        obtain ⟨c, hcs, htr⟩ := Option.bind_eq_some_iff.1 hg
        obtain ⟨v, hK, hok⟩ := hO.2 H enc w base sp held n c y htr
        obtain ⟨_, hcl, hcell⟩ := World.cells?_some hcs
        refine ⟨v, ⟨c, by rw [hcl, hO.1], hK, fun j u hj => ?_⟩, hok⟩
        have hjl : j < P.cellsOf e := by
          rw [← hcl]
          exact (List.getElem?_eq_some_iff.1 hj).1
        rw [← hO.1, ← Addr.add_add, hcell j hjl, hj])
      have hmx : len ≤ 9223372036854775807 := by
        have : len ≤ maxLen := by omega
        simpa [maxLen] using this
      refine ⟨vs, ⟨some a, cap, by rw [hvl], by omega, rfl, by omega, fun _ => ⟨a, rfl, fun j p hp => ?_⟩⟩, by omega, fun x hx => ?_⟩
      · exact (hv j p hp).1
      · obtain ⟨i, hi⟩ := List.mem_iff_getElem?.1 hx
        exact (hv i x hi).2⟩
/-- One of the listed variables. -/
theorem zDQ {P : Program} {w : World} {name : String} {d : DataW Unit} : ∀ (l : List (String × DataW Unit)) (ps : List MemPlace), DataW.LaidVars P w l ps → (name, d) ∈ l →
    ∃ g t cs fuel p, P.globalNamed name = some g ∧ (P.globals[g]?).map (·.type) = some t ∧ w.var? P name = some cs ∧ DataW.trod (fun _ => ()) P w 0 (fun _ => true) false fuel t cs.toList = some (d, p)
  | [], _, _, hm => absurd hm (by simp)
  | (n, e) :: r, ps, h, hm => by
    obtain ⟨g, t, cs, fuel, p, q, hg, ht, hv, hd, hr, _⟩ := h
    rcases List.mem_cons.1 hm with hx | hx
    · injection hx with h1 h2
      subst h1
      subst h2
      exact ⟨g, t, cs, fuel, p, hg, ht, hv, hd⟩
    · exact zDQ r q hr hx
theorem zRK {P : Program} {W : World} {name : String} {k : IntKind} {zs : List Int} {laid : List (String × DataW Unit)} {g : Nat} {t e : TypeId} {n : Nat}
    (hg : P.globalNamed name = some g) (hty : (P.globals[g]?).map (·.type) = some t) (ht : P.underlying t = some (.array n e)) (he : P.underlying e = some (.int k)) (hce : P.cellsOf e = 1) (hct : P.cellsOf t = n)
    (h : laidMet P laid W) (hm : (name, Lib.tabData k zs) ∈ laid) : Lib.TabIs P W name k zs := by
  obtain ⟨ps, hl, _⟩ := h
  obtain ⟨g', t', cs, fuel, p, hg', ht', hvar, hd⟩ := zDQ laid ps hl hm
  obtain rfl := Option.some.inj (hg.symm.trans hg')
  obtain rfl := Option.some.inj (hty.symm.trans ht')
  unfold Lib.TabIs
  rw [hvar, ← Lib.cells_of_tab ht he hce hct hd]
end Go.Proofs.YtholbmidciapdaaGreatDoor.O
namespace Go.Proofs.YtholbmidciapdaaGreatDoor.X
open Go Go.RowKit
/-- What a variable holds stays where all that lay stays. -/
theorem zHX {P : Program} {w w' : World} {name : String} {cs : Array Value} (h : w.var? P name = some cs) (hb : Below w.heap.size w w') : w'.var? P name = some cs := by
  unfold World.var? at *
  cases hg : P.globalNamed name with
  | none => simp [hg] at h
  | some g =>
    simp only [hg, Option.bind_some] at h ⊢
    have hlt : g < w.heap.size := by
      rcases Nat.lt_or_ge g w.heap.size with h' | h'
      · exact h'
      · rw [Array.getElem?_eq_none h'] at h; simp at h
    rw [hb.block g hlt]
    exact h
/-- A variable of an interface's type, out of what is laid. -/
theorem zIH {P : Program} {W : World} {name tname : String} {d : DataW Unit} {laid : List (String × DataW Unit)} {g : Nat} {ti : TypeId} {ms : Array (String × TypeId)}
    (hg : P.globalNamed name = some g) (hty : (P.globals[g]?).map (·.type) = some ti) (hi : P.underlying ti = some (.interface ms)) (h : laidMet P laid W) (hm : (name, .iface tname d) ∈ laid) :
    ∃ u v, W.var? P name = some #[.iface u v] := by
  obtain ⟨ps, hl, _⟩ := h
  obtain ⟨g', t', cs, fuel, p, hg', ht', hvar, hd⟩ := O.zDQ laid ps hl hm
  obtain rfl := Option.some.inj (hg.symm.trans hg')
  obtain rfl := Option.some.inj (hty.symm.trans ht')
  obtain ⟨_, u, v, e, _, _⟩ := iface_of_trod hi hd
  refine ⟨u, v, hvar.trans (congrArg some ?_)⟩
  obtain ⟨l⟩ := cs
  exact congrArg Array.mk e
/-- A list of strings, as a variable's cells are read. -/
theorem zPU {H : Type} {enc : TypeId × Value → H} {P : Program} {w : World} {base : Nat} {sp : Nat → Bool} {held : Bool} {fuel : Nat} {t e : TypeId} {n : Nat} {cs : List Value} {zs : List (List UInt8)} {p : List MemPlace}
    (ht : P.underlying t = some (.array n e)) (he : P.underlying e = some .string) (hce : P.cellsOf e = 1) (hct : P.cellsOf t = n)
    (h : DataW.trod enc P w base sp held fuel t cs = some (.agg (zs.map fun z => .lit (.string z)), p)) : cs = zs.map fun z => Value.string ⟨z.toArray⟩ := by
  cases fuel with
  | zero => simp [DataW.trod] at h
  | succ fuel =>
    simp only [DataW.trod, ht, hce, hct, Nat.mul_one] at h
    split at h
    · rename_i hl
      obtain ⟨xs, hm, hx⟩ := Option.map_eq_some_iff.1 h
      have hxs : xs.map (·.1) = zs.map fun z => (DataW.lit (.string z) : DataW H) := by
        have := congrArg Prod.fst hx
        simpa using this
      have hxl : xs.length = n := by simpa using Lib.mapM_length hm
      have hzl : zs.length = n := by
        have := congrArg List.length hxs
        simp at this
        omega
      apply List.ext_getElem?
      intro i
      by_cases hi : i < n
      · obtain ⟨b, hb, hf⟩ := Lib.mapM_at hm i i (by simp [hi])
        obtain ⟨s, hc, hsd, _⟩ := DataW.trod_string he hf
        have h1 : cs[i]? = some (.string s) := by
          have := congrArg (·[0]?) hc
          simpa [List.getElem?_take, List.getElem?_drop] using this
        have h2 : (xs.map (·.1))[i]? = some b.1 := by simp [hb]
        rw [hxs] at h2
        simp only [List.getElem?_map, Option.map_eq_some_iff] at h2
        obtain ⟨z', hz', e2⟩ := h2
        have e3 : (DataW.lit (.string z') : DataW H) = .lit (.string s.data.toList) := by rw [e2, hsd]
        have e4 : z' = s.data.toList := by injection e3 with e3; injection e3
        rw [h1, List.getElem?_map, hz', e4]
        obtain ⟨⟨l⟩⟩ := s
        rfl
      · rw [List.getElem?_eq_none (by omega), List.getElem?_eq_none (by simp; omega)]
    · cases h
/-- The words of the roundings. -/
def zKG : List (List UInt8) := [[], [100, 111, 119, 110], [117, 112], [104, 97, 108, 102, 45, 117, 112], [104, 97, 108, 102, 45, 101, 118, 101, 110]]
def Words (w : World) : Prop := w.var? Tryz.prog "spile/tariff.words" = some (zKG.map fun z => Value.string ⟨z.toArray⟩).toArray
theorem Words.zRU {W : World} (laid : List (String × DataW Unit)) (hm : ("spile/tariff.words", Rows.laid_spile_tariff_words) ∈ laid) (h : laidMet Tryz.prog laid W) : Words W := by
  obtain ⟨ps, hl, _⟩ := h
  obtain ⟨g', t', cs, fuel, p, hg', ht', hvar, hd⟩ := O.zDQ laid ps hl hm
  obtain rfl : g' = 0 := Option.some.inj (hg'.symm.trans (show Tryz.prog.globalNamed "spile/tariff.words" = some 0 by kernel_rfl))
  obtain rfl : t' = 81 := Option.some.inj (ht'.symm.trans (show (Tryz.prog.globals[0]?).map (·.type) = some 81 by kernel_rfl))
  have e := zPU (zs := zKG) Tryz.underlying81 Tryz.underlying9 (by kernel_rfl) (by kernel_rfl) hd
  unfold Words
  rw [hvar, ← e]
theorem Words.cell {W : World} (h : Words W) (i : Nat) (z : List UInt8) (hi : zKG[i]? = some z) : W.cell? ⟨0, i, none⟩ = some (.string ⟨z.toArray⟩) := by
  have := World.var?_cell (show Tryz.prog.globalNamed "spile/tariff.words" = some 0 by kernel_rfl) h i
  rw [this]
  simp [hi]
/-- The table of the powers of ten, strconv's two errors, and some number where internal/bytealg.MaxLen lies. -/
def GI (w : World) : Prop := Lib.TabIs Tryz.prog w "internal/strconv.uint64pow10" .u64 Lib.pow10Tab ∧ (∃ tp p, w.var? Tryz.prog "strconv.ErrSyntax" = some #[.iface tp p]) ∧ (∃ tp p, w.var? Tryz.prog "strconv.ErrRange" = some #[.iface tp p]) ∧ (∃ m, w.cell? ⟨2, 0, none⟩ = some (.int .i64 m)) ∧ Words w
theorem GI.below {w w' : World} (h : GI w) (hb : Below w.heap.size w w') : GI w' := by
  obtain ⟨h1, ⟨tp, p, h2⟩, ⟨tp2, p2, h3⟩, ⟨m, h4⟩, h5⟩ := h
  exact ⟨zHX h1 hb, ⟨tp, p, zHX h2 hb⟩, ⟨tp2, p2, zHX h3 hb⟩, ⟨m, (hb.cell (World.block_lt_of_cell? w _ h4)).trans h4⟩, zHX h5 hb⟩
theorem GI.drewN {w : World} (h : GI w) (n : Nat) : GI (w.drewN n) := h
theorem GI.drew {w : World} (h : GI w) : GI w.drew := h
theorem GI.max {w : World} (h : GI w) : ∃ m, w.cell? ⟨2, 0, none⟩ = some (.int .i64 m) := h.2.2.2.1
theorem GI.words {w : World} (h : GI w) : Words w := h.2.2.2.2
theorem GI.zRU {W : World} (laid : List (String × DataW Unit)) (hm1 : ("internal/strconv.uint64pow10", Rows.laid_internal_strconv_uint64pow10) ∈ laid) (hm2 : ("strconv.ErrSyntax", Rows.laid_strconv_ErrSyntax) ∈ laid) (hm3 : ("strconv.ErrRange", Rows.laid_strconv_ErrRange) ∈ laid) (hm4 : ("spile/tariff.words", Rows.laid_spile_tariff_words) ∈ laid)
    (h : laidMetH Tryz.prog laid W) (hsh : W.ShapedOpen Tryz.prog) (hp : (laid.filter fun x => x.2.handleName?.isSome) = [] := by kernel_rfl) : GI W := by
  unfold laidMetH at h
  rw [hp] at h
  refine ⟨O.zRK (g := 1) (t := 130) (e := 53) (n := 20) (by kernel_rfl) (by kernel_rfl) Tryz.underlying130 Tryz.underlying53 (by kernel_rfl) (by kernel_rfl) h hm1, ?_, ?_, ?_, Words.zRU laid hm4 h⟩
  · exact zIH (g := 3) (ti := 78) (by kernel_rfl) (by kernel_rfl) Tryz.underlying78 h hm2
  · exact zIH (g := 4) (ti := 78) (by kernel_rfl) (by kernel_rfl) Tryz.underlying78 h hm3
  · exact cell_of_shapedOpen_int (t := 3) (zero := #[.int .i64 0]) hsh (of_decide_eq_true (by kernel_rfl)) (by kernel_rfl) rfl (by kernel_rfl) (by kernel_rfl) Tryz.underlying3
end Go.Proofs.YtholbmidciapdaaGreatDoor.X
namespace Go.Proofs.YtholbmidciapdaaGreatDoor.X
open Go Go.RowKit Go.Proofs.YtholbmidciapdaaGreatDoorW.PrintLast
theorem wAN {P : Program} {ops : Array Oper} {Q : Exit → Act → World → Prop} {oi : Oper} {N : Option Tmp} {a : Act} {w : World} {K : Act → World → Prop} {f : FuncId} {fn : Func} {ags : Array Operand} {ts : Array TypeId} {o : Operand}
    (hf : P.funcs[f]? = some fn) (hname : (fn.name == "runtime.NumGoroutine") = false) (hb : fn.body.isSome = true) (args : Array Value)
    (hw : Region.wanted oi (yielded ops a.tmps) = true) (hN : oi.dst = N) (hop : oi.op = .call { callee := .value o, args := ags, argTypes := ts }) (hargs : ags.map a.eval = args) (hv : a.eval o = .func (.func f) #[] #[])
    (h : Calls P f args w fun e w' => ∃ v, e = .returned v ∧ K (a.put N v) w') : if Region.wanted oi (yielded ops a.tmps) = true then Oper.wp P oi a w K Q else K (a.put N undef) w := by
  refine call_ f args hw hN ?_ h
  have he := zUY hf hname hb args w
  unfold execOp
  simp [hop, resolve, Deferred.ofValue, invoke, hv, hargs, he]
end Go.Proofs.YtholbmidciapdaaGreatDoor.X
namespace Go.Proofs.YtholbmidciapdaaGreatDoor.Pr
open Go.RowKit Go.Proofs.YtholbmidciapdaaGreatDoorW.PrintWords Go.Proofs.YtholbmidciapdaaGreatDoorW.PrintLast Go.Proofs.YtholbmidciapdaaGreatDoorW.PrintMore Go.Proofs.YtholbmidciapdaaGreatDoor.X
attribute [local go_sem] uR uP kP kO jN jM uQ uO   -- for this text's walks alone
set_option linter.unusedVariables false
set_option linter.unusedSimpArgs false
theorem eqA26 (d : Nat) (w : World) (x0 y0 : Int) (x1 y1 : Int) (x2 y2 : Int) :
  (Op.equalIn (d + 2) 26 (.agg #[.int .i64 x0, .int .i64 x1, .int .i64 x2]) (.agg #[.int .i64 y0, .int .i64 y1, .int .i64 y2])).run Tryz.prog w = .ok (x0 == y0 && (x1 == y1 && (x2 == y2))) w := by
 refine eqA_of Tryz.underlying26 (by kernel_rfl) ?_
 refine zVZ (by rfl) (by go_simp; rfl) (by go_simp; rfl) (by go_simp) ?_
 refine zVZ (by rfl) (by go_simp; rfl) (by go_simp; rfl) (by go_simp) ?_
 exact eqf_last (by rfl) (by go_simp; rfl) (by go_simp; rfl) (by go_simp)
end Go.Proofs.YtholbmidciapdaaGreatDoor.Pr
namespace Go.Proofs.YtholbmidciapdaaGreatDoor.Pr
open Go.RowKit Go.Proofs.YtholbmidciapdaaGreatDoorW.PrintWords Go.Proofs.YtholbmidciapdaaGreatDoorW.PrintLast Go.Proofs.YtholbmidciapdaaGreatDoorW.PrintMore Go.Proofs.YtholbmidciapdaaGreatDoor.X
attribute [local go_sem] uR uP kP kO jN jM uQ uO   -- for this text's walks alone
set_option linter.unusedVariables false
set_option linter.unusedSimpArgs false
def zR.f (a0 : Int) (a1 : Int) (a2 : Int) : Option (Bool) := if a0 ≥ a1 then (some (decide (a0 ≤ a2))) else (some false)
set_option maxHeartbeats 8000000 in
set_option maxRecDepth 100000 in
theorem zR.calls (a0 : Int) (a1 : Int) (a2 : Int) (r : Bool) (w : World) (h : zR.f a0 a1 a2 = some r) :
  Calls Tryz.prog 35 #[.int .i64 a0, .int .i64 a1, .int .i64 a2] w fun e w' => e = .returned (.bool r) ∧ wR w w' := by
 have H : (if a0 ≥ a1 then (some (decide (a0 ≤ a2))) else (some false)) = some r := h; clear h; by_cases c4 : a0 ≥ a1
 ·
  rw [if_pos c4] at H; have c4b0 : decide (a1 ≤ a0) = true := decide_eq_true c4; clear c4; obtain rfl := Option.some.inj H; go_enter Tryz.func35, Tryz.ntmps35
  go_wp2; go_ret
  exact ⟨by first | rfl | (simp; done) | (simp [*]; done), by repeat (first | exact wR.refl _ | apply wR.step)⟩
 ·
  rw [if_neg c4] at H; have c4b0 : decide (a1 ≤ a0) = false := decide_eq_false c4; clear c4; obtain rfl := Option.some.inj H; go_enter Tryz.func35, Tryz.ntmps35
  go_wp2; go_ret
  exact ⟨by first | rfl | (simp; done) | (simp [*]; done), by repeat (first | exact wR.refl _ | apply wR.step)⟩
def qP.f (a0_0 : Int) (a0_1 : Int) (a0_2 : Int) : Option (Bool) := (zR.f a0_0 1 9).bind fun t102 => (if t102 = true then ((zR.f a0_1 0 100000).bind fun t103 => (if t103 = true then ((zR.f a0_2 0 1000000).bind fun t104 => (some t104)) else (some false))) else (some false))
set_option maxHeartbeats 8000000 in
set_option maxRecDepth 100000 in
theorem qP.calls (a0_0 : Int) (a0_1 : Int) (a0_2 : Int) (r : Bool) (w : World) (h : qP.f a0_0 a0_1 a0_2 = some r) :
  Calls Tryz.prog 36 #[.agg #[.int .i64 a0_0, .int .i64 a0_1, .int .i64 a0_2]] w fun e w' => e = .returned (.bool r) ∧ Below w.heap.size w w' := by
 have hu26 := Tryz.underlying26; have HB := zA.mk (Below.refl w.heap.size w); have H : ((zR.f a0_0 1 9).bind fun t102 => (if t102 = true then ((zR.f a0_1 0 100000).bind fun t103 => (if t103 = true then ((zR.f a0_2 0 1000000).bind fun t104 => (some t104)) else (some false))) else (some false))) = some r := h; clear h; replace H := Option.bind_eq_some_iff.mp H; obtain ⟨t102, A20, H⟩ := H; replace H : (if t102 = true then ((zR.f a0_1 0 100000).bind fun t103 => (if t103 = true then ((zR.f a0_2 0 1000000).bind fun t104 => (some t104)) else (some false))) else (some false)) = some r := H; have A2 := zA.mk A20; clear A20; by_cases c3 : t102 = true
 ·
  subst c3; have H1 : ((zR.f a0_1 0 100000).bind fun t103 => (if t103 = true then ((zR.f a0_2 0 1000000).bind fun t104 => (some t104)) else (some false))) = some r := by rw [if_pos rfl] at H; exact H
  clear H; have H := H1; clear H1; replace H := Option.bind_eq_some_iff.mp H; obtain ⟨t103, A40, H⟩ := H; replace H : (if t103 = true then ((zR.f a0_2 0 1000000).bind fun t104 => (some t104)) else (some false)) = some r := H; have A4 := zA.mk A40; clear A40; by_cases c5 : t103 = true
  ·
   subst c5; have H1 : ((zR.f a0_2 0 1000000).bind fun t104 => (some t104)) = some r := by rw [if_pos rfl] at H; exact H
   clear H; have H := H1; clear H1; replace H := Option.bind_eq_some_iff.mp H; obtain ⟨t104, A60, H⟩ := H; replace H : (some t104) = some r := H; have A6 := zA.mk A60; clear A60; obtain rfl := Option.some.inj H; go_enter Tryz.func36, Tryz.ntmps36
   go_wp2_with (first | ((with_reducible refine wF (N := 1) rfl ?_); refine wA ?hg (N := 1) ?hd (cs := #[.int .i64 a0_0, .int .i64 a0_1, .int .i64 a0_2]) (t := 26) ?hr ?_; (case hd => rfl); (case hg => rfl); (case hr => first | (go_simp; done) | (go_simp; rfl)); intro zFP hg w7 hbox hb; have n0_ := zA.mk (zF (eG HB.out) hb); have n1_ := zA.mk (hbox); have n2_ := zA.mk ((by rw [hg]; exact (zE (eG HB.out)) : w.heap.size ≤ zFP)); have n3_ := zA.mk ((by rw [hg]; exact (zE (eG HB.out)) : w.heap.size ≤ zFP)); clear HB; have HB := n0_; have zEG := n1_; have GW101 := n2_; have wBY := n3_; have ig101_ := geI wBY; clear n0_ n1_ n2_ n3_; clear hb hbox hg; have zFM : w7.cell? ⟨zFP, 0, none⟩ = some (.int .i64 a0_0) := (zC zEG.out 0).trans rfl; have zFL : w7.cell? ⟨zFP, 1, none⟩ = some (.int .i64 a0_1) := (zC zEG.out 1).trans rfl; have hcz8_2 : w7.cell? ⟨zFP, 2, none⟩ = some (.int .i64 a0_2) := (zC zEG.out 2).trans rfl; have zFK := zB zEG.out 0; have zFJ := zB zEG.out 1; have hfz8_2 := zB zEG.out 2) | ((with_reducible refine zQ (f := 35) rfl ?_); refine vB (some 5) rfl rfl Tryz.func35 (by kernel_rfl) rfl #[.int .i64 a0_0, .int .i64 1, .int .i64 9] rfl (by (try simp only [List.map_toArray, List.map_cons, List.map_nil]); first | done | rfl | (simp only [List.length_drop, List.length_take]; rfl)) ?_; (with_reducible refine (zR.calls a0_0 1 9 true _ A2.out).mono ?_); rintro e w' ⟨rfl, ⟨nd, rfl⟩⟩; refine ⟨_, rfl, ?_⟩) | (go_at_call 35; (with_reducible refine (zR.calls a0_1 0 100000 true _ A4.out).mono ?_); rintro e w' ⟨rfl, ⟨nd, rfl⟩⟩) | (go_at_call 35; (with_reducible refine (zR.calls a0_2 0 1000000 t104 _ A6.out).mono ?_); rintro e w' ⟨rfl, ⟨nd, rfl⟩⟩))
   go_ret
   exact ⟨by first | rfl | (simp [zN, zM] <;> rfl) | (simp [*, zN, zM] <;> rfl), eG HB.out⟩
  ·
   replace c5 := Bool.eq_false_iff.mpr c5; subst c5; have H1 : (some false) = some r := by rw [if_neg (show ¬ (false = true) by decide)] at H; exact H
   clear H; have H := H1; clear H1; obtain rfl := Option.some.inj H; go_enter Tryz.func36, Tryz.ntmps36
   go_wp2_with (first | ((with_reducible refine wF (N := 1) rfl ?_); refine wA ?hg (N := 1) ?hd (cs := #[.int .i64 a0_0, .int .i64 a0_1, .int .i64 a0_2]) (t := 26) ?hr ?_; (case hd => rfl); (case hg => rfl); (case hr => first | (go_simp; done) | (go_simp; rfl)); intro zFP hg w9 hbox hb; have n0_ := zA.mk (zF (eG HB.out) hb); have n1_ := zA.mk (hbox); have n2_ := zA.mk ((by rw [hg]; exact (zE (eG HB.out)) : w.heap.size ≤ zFP)); have n3_ := zA.mk ((by rw [hg]; exact (zE (eG HB.out)) : w.heap.size ≤ zFP)); clear HB; have HB := n0_; have zEG := n1_; have GW101 := n2_; have wBY := n3_; have ig101_ := geI wBY; clear n0_ n1_ n2_ n3_; clear hb hbox hg; have zCC : w9.cell? ⟨zFP, 0, none⟩ = some (.int .i64 a0_0) := (zC zEG.out 0).trans rfl; have zCB : w9.cell? ⟨zFP, 1, none⟩ = some (.int .i64 a0_1) := (zC zEG.out 1).trans rfl; have hcz10_2 : w9.cell? ⟨zFP, 2, none⟩ = some (.int .i64 a0_2) := (zC zEG.out 2).trans rfl; have zCA := zB zEG.out 0; have zBZ := zB zEG.out 1; have hfz10_2 := zB zEG.out 2) | ((with_reducible refine zQ (f := 35) rfl ?_); refine vB (some 5) rfl rfl Tryz.func35 (by kernel_rfl) rfl #[.int .i64 a0_0, .int .i64 1, .int .i64 9] rfl (by (try simp only [List.map_toArray, List.map_cons, List.map_nil]); first | done | rfl | (simp only [List.length_drop, List.length_take]; rfl)) ?_; (with_reducible refine (zR.calls a0_0 1 9 true _ A2.out).mono ?_); rintro e w' ⟨rfl, ⟨nd, rfl⟩⟩; refine ⟨_, rfl, ?_⟩) | (go_at_call 35; (with_reducible refine (zR.calls a0_1 0 100000 false _ A4.out).mono ?_); rintro e w' ⟨rfl, ⟨nd, rfl⟩⟩))
   go_ret
   exact ⟨by first | rfl | (simp [zN, zM] <;> rfl) | (simp [*, zN, zM] <;> rfl), eG HB.out⟩
 ·
  replace c3 := Bool.eq_false_iff.mpr c3; subst c3; have H1 : (some false) = some r := by rw [if_neg (show ¬ (false = true) by decide)] at H; exact H
  clear H; have H := H1; clear H1; obtain rfl := Option.some.inj H; go_enter Tryz.func36, Tryz.ntmps36
  go_wp2_with (first | ((with_reducible refine wF (N := 1) rfl ?_); refine wA ?hg (N := 1) ?hd (cs := #[.int .i64 a0_0, .int .i64 a0_1, .int .i64 a0_2]) (t := 26) ?hr ?_; (case hd => rfl); (case hg => rfl); (case hr => first | (go_simp; done) | (go_simp; rfl)); intro zFP hg w11 hbox hb; have n0_ := zA.mk (zF (eG HB.out) hb); have n1_ := zA.mk (hbox); have n2_ := zA.mk ((by rw [hg]; exact (zE (eG HB.out)) : w.heap.size ≤ zFP)); have n3_ := zA.mk ((by rw [hg]; exact (zE (eG HB.out)) : w.heap.size ≤ zFP)); clear HB; have HB := n0_; have zEG := n1_; have GW101 := n2_; have wBY := n3_; have ig101_ := geI wBY; clear n0_ n1_ n2_ n3_; clear hb hbox hg; have zJK : w11.cell? ⟨zFP, 0, none⟩ = some (.int .i64 a0_0) := (zC zEG.out 0).trans rfl; have zJJ : w11.cell? ⟨zFP, 1, none⟩ = some (.int .i64 a0_1) := (zC zEG.out 1).trans rfl; have hcz12_2 : w11.cell? ⟨zFP, 2, none⟩ = some (.int .i64 a0_2) := (zC zEG.out 2).trans rfl; have zJI := zB zEG.out 0; have zJH := zB zEG.out 1; have hfz12_2 := zB zEG.out 2) | ((with_reducible refine zQ (f := 35) rfl ?_); refine vB (some 5) rfl rfl Tryz.func35 (by kernel_rfl) rfl #[.int .i64 a0_0, .int .i64 1, .int .i64 9] rfl (by (try simp only [List.map_toArray, List.map_cons, List.map_nil]); first | done | rfl | (simp only [List.length_drop, List.length_take]; rfl)) ?_; (with_reducible refine (zR.calls a0_0 1 9 false _ A2.out).mono ?_); rintro e w' ⟨rfl, ⟨nd, rfl⟩⟩; refine ⟨_, rfl, ?_⟩))
  go_ret
  exact ⟨by first | rfl | (simp [zN, zM] <;> rfl) | (simp [*, zN, zM] <;> rfl), eG HB.out⟩
def yU.l0 : Nat → Int → List Int → Int → Int → Option (Int)
 | 0, _, _, _, _ => none
 | k + 1, x3, x6, x7, x8 => if x8 < x7 then (if 0 ≤ x8 then (if x8 < (x6.length : Int) then (if (rd x6 x8) = x3 then (yU.l0 k x3 x6 x7 (wrap64 (x8 + 1))) else (some (rd x6 x8))) else (none)) else (none)) else (some x3)
def yU.f (k : Nat) (l0 : List Int) : Option (Int) := yU.l0 k 0 l0 (l0.length : Int) 0
set_option maxHeartbeats 8000000 in
set_option maxRecDepth 100000 in
theorem yU.calls (k : Nat) (A0 : Option Addr) (c0 : Nat) (l0 : List Int) (r : Int) (w : World) (hr0 : Kd.C (Kd.int .i64) w A0 l0.length l0) (hc0 : l0.length ≤ c0) (h : yU.f k l0 = some r) :
  Calls Tryz.prog 64 #[.slice A0 l0.length c0] w fun e w' => e = .returned (.int .i64 r) ∧ wR w w' := by
 have HR0 := zA.mk hr0; have HC0 := zA.mk hc0; clear hr0 hc0; have H : (yU.l0 k 0 l0 (l0.length : Int) 0) = some r := h; clear h; have H' := zA.mk H; clear H; go_enter Tryz.func64, Tryz.ntmps64
 go_wp2; go_loopg [8] k (fun kq v8 w' => ∃ (x8_1 : Int), v8 = .int .i64 x8_1 ∧ zA (yU.l0 kq 0 l0 (l0.length : Int) x8_1 = some r) ∧ zA (kq ≤ k) ∧ wR w w')
 case atStart => exact ⟨(0), (by first | rfl | (simp; done) | (simp [*]; done)), H', ⟨Nat.le_refl _⟩, by repeat (first | exact wR.refl _ | apply wR.step)⟩
 case round =>
  clear H'; obtain ⟨x8_1, rfl, HA, HK1, ⟨m1, rfl⟩⟩ := hrel
  cases gk with
  | zero => exact absurd HA.out (by simp [yU.l0])
  | succ k1 =>
   have H := HA.out; clear HA; simp only [yU.l0] at H; by_cases c2 : x8_1 < (l0.length : Int)
   ·
    rw [if_pos c2] at H; have c2b0 : decide (x8_1 < (l0.length : Int)) = true := decide_eq_true c2; clear c2; by_cases c3 : 0 ≤ x8_1
    ·
     rw [if_pos c3] at H; have c3b0 : decide (0 ≤ x8_1) = true := decide_eq_true c3; clear c3; by_cases c4 : x8_1 < (l0.length : Int)
     ·
      rw [if_pos c4] at H; have c4b0 : decide (x8_1 < (l0.length : Int)) = true := decide_eq_true c4; clear c4; by_cases c5 : (rd l0 x8_1) = 0
      ·
       rw [if_pos c5] at H; have c5b0 : ((rd l0 x8_1) == 0) = true := beq_iff_eq.mpr c5; have c5b1 : ((rd l0 x8_1) != 0) = false := bne_eq_false_iff_eq.mpr c5; clear c5; have H' := zA.mk H; clear H; have p105 : 0 ≤ (x8_1 : Int) := of_decide_eq_true (by first | (with_reducible assumption) | assumption); have q105 : x8_1 < (l0.length : Int) := of_decide_eq_true (by first | (with_reducible assumption) | assumption); obtain ⟨ad105, e105, hx105_0⟩ := Kd.zNN HR0.out x8_1 p105 q105; cases e105; replace p105 := eq_true p105; replace q105 := eq_true q105; go_wp2; go_roundg k1
       case measure => have := HK1.out; omega
       case rel => exact ⟨(wrap64 (x8_1 + 1)), (by first | rfl | (simp; done) | (simp [*]; done)), H', ⟨by have := HK1.out; omega⟩, by repeat (first | exact wR.refl _ | apply wR.step)⟩
      ·
       rw [if_neg c5] at H; have c5b0 : ((rd l0 x8_1) == 0) = false := beq_eq_false_iff_ne.mpr c5; have c5b1 : ((rd l0 x8_1) != 0) = true := bne_iff_ne.mpr c5; obtain rfl := Option.some.inj H; have p105 : 0 ≤ (x8_1 : Int) := of_decide_eq_true (by first | (with_reducible assumption) | assumption); have q105 : x8_1 < (l0.length : Int) := of_decide_eq_true (by first | (with_reducible assumption) | assumption); obtain ⟨ad105, e105, hx105_0⟩ := Kd.zNN HR0.out x8_1 p105 q105; cases e105; replace p105 := eq_true p105; replace q105 := eq_true q105; go_wp2; go_ret
       exact ⟨by first | rfl | (simp; done) | (simp [*]; done), by repeat (first | exact wR.refl _ | apply wR.step)⟩
     · rw [if_neg c4] at H; exact absurd H (by simp)
    · rw [if_neg c3] at H; exact absurd H (by simp)
   ·
    rw [if_neg c2] at H; have c2b0 : decide (x8_1 < (l0.length : Int)) = false := decide_eq_false c2; clear c2; obtain rfl := Option.some.inj H; go_wp2; go_ret
    exact ⟨by first | rfl | (simp; done) | (simp [*]; done), by repeat (first | exact wR.refl _ | apply wR.step)⟩
def cmp_isNaN_int.f (a0 : Int) : Option (Bool) := some (a0 != a0)
set_option maxHeartbeats 8000000 in
set_option maxRecDepth 100000 in
theorem cmp_isNaN_int.calls (a0 : Int) (r : Bool) (w : World) (h : cmp_isNaN_int.f a0 = some r) :
  Calls Tryz.prog 75 #[.int .i64 a0] w fun e w' => e = .returned (.bool r) ∧ wR w w' := by
 have H : (some (a0 != a0)) = some r := h; clear h; obtain rfl := Option.some.inj H; go_enter Tryz.func75, Tryz.ntmps75
 go_wp2; go_ret
 exact ⟨by first | rfl | (simp; done) | (simp [*]; done), by repeat (first | exact wR.refl _ | apply wR.step)⟩
def yO.f (a0 : Int) (a1 : Int) : Option (Int) := (cmp_isNaN_int.f a0).bind fun t106 => ((cmp_isNaN_int.f a1).bind fun t107 => (if t106 = true then (if t107 = true then (some 0) else (some (-1))) else (if t107 = true then (some 1) else (if a0 < a1 then (some (-1)) else (if a0 > a1 then (some 1) else (some 0))))))
set_option maxHeartbeats 8000000 in
set_option maxRecDepth 100000 in
theorem yO.calls (a0 : Int) (a1 : Int) (r : Int) (w : World) (h : yO.f a0 a1 = some r) :
  Calls Tryz.prog 65 #[.int .i64 a0, .int .i64 a1] w fun e w' => e = .returned (.int .i64 r) ∧ wR w w' := by
 have H : ((cmp_isNaN_int.f a0).bind fun t106 => ((cmp_isNaN_int.f a1).bind fun t107 => (if t106 = true then (if t107 = true then (some 0) else (some (-1))) else (if t107 = true then (some 1) else (if a0 < a1 then (some (-1)) else (if a0 > a1 then (some 1) else (some 0))))))) = some r := h; clear h; replace H := Option.bind_eq_some_iff.mp H; obtain ⟨t106, A30, H⟩ := H; replace H : ((cmp_isNaN_int.f a1).bind fun t107 => (if t106 = true then (if t107 = true then (some 0) else (some (-1))) else (if t107 = true then (some 1) else (if a0 < a1 then (some (-1)) else (if a0 > a1 then (some 1) else (some 0)))))) = some r := H; have A3 := zA.mk A30; clear A30; replace H := Option.bind_eq_some_iff.mp H; obtain ⟨t107, A40, H⟩ := H; replace H : (if t106 = true then (if t107 = true then (some 0) else (some (-1))) else (if t107 = true then (some 1) else (if a0 < a1 then (some (-1)) else (if a0 > a1 then (some 1) else (some 0))))) = some r := H; have A4 := zA.mk A40; clear A40; by_cases c5 : t106 = true
 ·
  subst c5; have H1 : (if t107 = true then (some 0) else (some (-1))) = some r := by rw [if_pos rfl] at H; exact H
  clear H; have H := H1; clear H1; by_cases c6 : t107 = true
  ·
   subst c6; have H1 : (some 0) = some r := by rw [if_pos rfl] at H; exact H
   clear H; have H := H1; clear H1; obtain rfl := Option.some.inj H; go_enter Tryz.func65, Tryz.ntmps65
   go_wp2_with (first | ((with_reducible refine zQ (f := 75) rfl ?_); refine vB (some 8) rfl rfl Tryz.func75 (by kernel_rfl) rfl #[.int .i64 a0] rfl (by (try simp only [List.map_toArray, List.map_cons, List.map_nil]); first | done | rfl | (simp only [List.length_drop, List.length_take]; rfl)) ?_; (with_reducible refine (cmp_isNaN_int.calls a0 true _ A3.out).mono ?_); rintro e w' ⟨rfl, ⟨nd, rfl⟩⟩; refine ⟨_, rfl, ?_⟩) | ((with_reducible refine zQ (f := 75) rfl ?_); refine vB (some 10) rfl rfl Tryz.func75 (by kernel_rfl) rfl #[.int .i64 a1] rfl (by (try simp only [List.map_toArray, List.map_cons, List.map_nil]); first | done | rfl | (simp only [List.length_drop, List.length_take]; rfl)) ?_; (with_reducible refine (cmp_isNaN_int.calls a1 true _ A4.out).mono ?_); rintro e w' ⟨rfl, ⟨nd, rfl⟩⟩; refine ⟨_, rfl, ?_⟩))
   go_ret
   exact ⟨by first | rfl | (simp; done) | (simp [*]; done), by repeat (first | exact wR.refl _ | apply wR.step)⟩
  ·
   replace c6 := Bool.eq_false_iff.mpr c6; subst c6; have H1 : (some (-1)) = some r := by rw [if_neg (show ¬ (false = true) by decide)] at H; exact H
   clear H; have H := H1; clear H1; obtain rfl := Option.some.inj H; go_enter Tryz.func65, Tryz.ntmps65
   go_wp2_with (first | ((with_reducible refine zQ (f := 75) rfl ?_); refine vB (some 8) rfl rfl Tryz.func75 (by kernel_rfl) rfl #[.int .i64 a0] rfl (by (try simp only [List.map_toArray, List.map_cons, List.map_nil]); first | done | rfl | (simp only [List.length_drop, List.length_take]; rfl)) ?_; (with_reducible refine (cmp_isNaN_int.calls a0 true _ A3.out).mono ?_); rintro e w' ⟨rfl, ⟨nd, rfl⟩⟩; refine ⟨_, rfl, ?_⟩) | ((with_reducible refine zQ (f := 75) rfl ?_); refine vB (some 10) rfl rfl Tryz.func75 (by kernel_rfl) rfl #[.int .i64 a1] rfl (by (try simp only [List.map_toArray, List.map_cons, List.map_nil]); first | done | rfl | (simp only [List.length_drop, List.length_take]; rfl)) ?_; (with_reducible refine (cmp_isNaN_int.calls a1 false _ A4.out).mono ?_); rintro e w' ⟨rfl, ⟨nd, rfl⟩⟩; refine ⟨_, rfl, ?_⟩))
   go_ret
   exact ⟨by first | rfl | (simp; done) | (simp [*]; done), by repeat (first | exact wR.refl _ | apply wR.step)⟩
 ·
  replace c5 := Bool.eq_false_iff.mpr c5; subst c5; have H1 : (if t107 = true then (some 1) else (if a0 < a1 then (some (-1)) else (if a0 > a1 then (some 1) else (some 0)))) = some r := by rw [if_neg (show ¬ (false = true) by decide)] at H; exact H
  clear H; have H := H1; clear H1; by_cases c7 : t107 = true
  ·
   subst c7; have H1 : (some 1) = some r := by rw [if_pos rfl] at H; exact H
   clear H; have H := H1; clear H1; obtain rfl := Option.some.inj H; go_enter Tryz.func65, Tryz.ntmps65
   go_wp2_with (first | ((with_reducible refine zQ (f := 75) rfl ?_); refine vB (some 8) rfl rfl Tryz.func75 (by kernel_rfl) rfl #[.int .i64 a0] rfl (by (try simp only [List.map_toArray, List.map_cons, List.map_nil]); first | done | rfl | (simp only [List.length_drop, List.length_take]; rfl)) ?_; (with_reducible refine (cmp_isNaN_int.calls a0 false _ A3.out).mono ?_); rintro e w' ⟨rfl, ⟨nd, rfl⟩⟩; refine ⟨_, rfl, ?_⟩) | ((with_reducible refine zQ (f := 75) rfl ?_); refine vB (some 10) rfl rfl Tryz.func75 (by kernel_rfl) rfl #[.int .i64 a1] rfl (by (try simp only [List.map_toArray, List.map_cons, List.map_nil]); first | done | rfl | (simp only [List.length_drop, List.length_take]; rfl)) ?_; (with_reducible refine (cmp_isNaN_int.calls a1 true _ A4.out).mono ?_); rintro e w' ⟨rfl, ⟨nd, rfl⟩⟩; refine ⟨_, rfl, ?_⟩))
   go_ret
   exact ⟨by first | rfl | (simp; done) | (simp [*]; done), by repeat (first | exact wR.refl _ | apply wR.step)⟩
  ·
   replace c7 := Bool.eq_false_iff.mpr c7; subst c7; have H1 : (if a0 < a1 then (some (-1)) else (if a0 > a1 then (some 1) else (some 0))) = some r := by rw [if_neg (show ¬ (false = true) by decide)] at H; exact H
   clear H; have H := H1; clear H1; by_cases c8 : a0 < a1
   ·
    rw [if_pos c8] at H; have c8b0 : decide (a0 < a1) = true := decide_eq_true c8; clear c8; obtain rfl := Option.some.inj H; go_enter Tryz.func65, Tryz.ntmps65
    go_wp2_with (first | ((with_reducible refine zQ (f := 75) rfl ?_); refine vB (some 8) rfl rfl Tryz.func75 (by kernel_rfl) rfl #[.int .i64 a0] rfl (by (try simp only [List.map_toArray, List.map_cons, List.map_nil]); first | done | rfl | (simp only [List.length_drop, List.length_take]; rfl)) ?_; (with_reducible refine (cmp_isNaN_int.calls a0 false _ A3.out).mono ?_); rintro e w' ⟨rfl, ⟨nd, rfl⟩⟩; refine ⟨_, rfl, ?_⟩) | ((with_reducible refine zQ (f := 75) rfl ?_); refine vB (some 10) rfl rfl Tryz.func75 (by kernel_rfl) rfl #[.int .i64 a1] rfl (by (try simp only [List.map_toArray, List.map_cons, List.map_nil]); first | done | rfl | (simp only [List.length_drop, List.length_take]; rfl)) ?_; (with_reducible refine (cmp_isNaN_int.calls a1 false _ A4.out).mono ?_); rintro e w' ⟨rfl, ⟨nd, rfl⟩⟩; refine ⟨_, rfl, ?_⟩))
    go_ret
    exact ⟨by first | rfl | (simp; done) | (simp [*]; done), by repeat (first | exact wR.refl _ | apply wR.step)⟩
   ·
    rw [if_neg c8] at H; have c8b0 : decide (a0 < a1) = false := decide_eq_false c8; clear c8; by_cases c9 : a0 > a1
    ·
     rw [if_pos c9] at H; have c9b0 : decide (a1 < a0) = true := decide_eq_true c9; clear c9; obtain rfl := Option.some.inj H; go_enter Tryz.func65, Tryz.ntmps65
     go_wp2_with (first | ((with_reducible refine zQ (f := 75) rfl ?_); refine vB (some 8) rfl rfl Tryz.func75 (by kernel_rfl) rfl #[.int .i64 a0] rfl (by (try simp only [List.map_toArray, List.map_cons, List.map_nil]); first | done | rfl | (simp only [List.length_drop, List.length_take]; rfl)) ?_; (with_reducible refine (cmp_isNaN_int.calls a0 false _ A3.out).mono ?_); rintro e w' ⟨rfl, ⟨nd, rfl⟩⟩; refine ⟨_, rfl, ?_⟩) | ((with_reducible refine zQ (f := 75) rfl ?_); refine vB (some 10) rfl rfl Tryz.func75 (by kernel_rfl) rfl #[.int .i64 a1] rfl (by (try simp only [List.map_toArray, List.map_cons, List.map_nil]); first | done | rfl | (simp only [List.length_drop, List.length_take]; rfl)) ?_; (with_reducible refine (cmp_isNaN_int.calls a1 false _ A4.out).mono ?_); rintro e w' ⟨rfl, ⟨nd, rfl⟩⟩; refine ⟨_, rfl, ?_⟩))
     go_ret
     exact ⟨by first | rfl | (simp; done) | (simp [*]; done), by repeat (first | exact wR.refl _ | apply wR.step)⟩
    ·
     rw [if_neg c9] at H; have c9b0 : decide (a1 < a0) = false := decide_eq_false c9; clear c9; obtain rfl := Option.some.inj H; go_enter Tryz.func65, Tryz.ntmps65
     go_wp2_with (first | ((with_reducible refine zQ (f := 75) rfl ?_); refine vB (some 8) rfl rfl Tryz.func75 (by kernel_rfl) rfl #[.int .i64 a0] rfl (by (try simp only [List.map_toArray, List.map_cons, List.map_nil]); first | done | rfl | (simp only [List.length_drop, List.length_take]; rfl)) ?_; (with_reducible refine (cmp_isNaN_int.calls a0 false _ A3.out).mono ?_); rintro e w' ⟨rfl, ⟨nd, rfl⟩⟩; refine ⟨_, rfl, ?_⟩) | ((with_reducible refine zQ (f := 75) rfl ?_); refine vB (some 10) rfl rfl Tryz.func75 (by kernel_rfl) rfl #[.int .i64 a1] rfl (by (try simp only [List.map_toArray, List.map_cons, List.map_nil]); first | done | rfl | (simp only [List.length_drop, List.length_take]; rfl)) ?_; (with_reducible refine (cmp_isNaN_int.calls a1 false _ A4.out).mono ?_); rintro e w' ⟨rfl, ⟨nd, rfl⟩⟩; refine ⟨_, rfl, ?_⟩))
     go_ret
     exact ⟨by first | rfl | (simp; done) | (simp [*]; done), by repeat (first | exact wR.refl _ | apply wR.step)⟩
def vM.f (k : Nat) (a0_0 : Int) (a0_1 : Int) (a0_2 : Int) (a1_0 : Int) (a1_1 : Int) (a1_2 : Int) : Option (Int) := (yO.f a0_0 a1_0).bind fun t110 => ((yO.f a0_1 a1_1).bind fun t111 => ((yU.f k (([t110, t111] : List Int))).bind fun t115 => (some t115)))
def vM.T1 : Bool × List (List Nat × List Nat) := (true, [([], []), ([0], [0]), ([], []), ([2], [2]), ([1, 3], [1, 3]), ([], []), ([5], [5]), ([], []), ([7], [7]), ([6, 8, 4], [6, 8]), ([4, 9], [4, 9]), ([10, 9], [10]), ([11, 11, 0, 1, 2, 3, 4, 5, 6, 7, 8, 9, 10, 11], [11])])
def vM.B1 : List Nat := [0, 1, 0, 4, 15, 0, 32, 0, 128, 511, 1023, 2047, 4095]
theorem vM.tab1 : rtab .any (opsOf Tryz.f37 1) = vM.T1 := by kernel_rfl
theorem vM.bits1 : zBX vM.T1.2 vM.B1 = true := by kernel_rfl
set_option maxHeartbeats 8000000 in
set_option maxRecDepth 100000 in
theorem vM.calls (k : Nat) (a0_0 : Int) (a0_1 : Int) (a0_2 : Int) (a1_0 : Int) (a1_1 : Int) (a1_2 : Int) (r : Int) (w : World) (h : vM.f k a0_0 a0_1 a0_2 a1_0 a1_1 a1_2 = some r) :
  Calls Tryz.prog 37 #[.agg #[.int .i64 a0_0, .int .i64 a0_1, .int .i64 a0_2], .agg #[.int .i64 a1_0, .int .i64 a1_1, .int .i64 a1_2]] w fun e w' => e = .returned (.int .i64 r) ∧ Below w.heap.size w w' := by
 have hu26 := Tryz.underlying26; have HB := zA.mk (Below.refl w.heap.size w); have H : ((yO.f a0_0 a1_0).bind fun t110 => ((yO.f a0_1 a1_1).bind fun t111 => ((yU.f k (([t110, t111] : List Int))).bind fun t115 => (some t115)))) = some r := h; clear h; replace H := Option.bind_eq_some_iff.mp H; obtain ⟨t110, A30, H⟩ := H; replace H : ((yO.f a0_1 a1_1).bind fun t111 => ((yU.f k (([t110, t111] : List Int))).bind fun t115 => (some t115))) = some r := H; have A3 := zA.mk A30; clear A30; replace H := Option.bind_eq_some_iff.mp H; obtain ⟨t111, A40, H⟩ := H; replace H : ((yU.f k (([t110, t111] : List Int))).bind fun t115 => (some t115)) = some r := H; have A4 := zA.mk A40; clear A40; obtain ⟨y112, hy112⟩ : ∃ y_ : List Int, y_ = (([t110, t111] : List Int)) := ⟨_, rfl⟩; replace H : ((yU.f k y112).bind fun t115 => (some t115)) = some r := by first | (rw [hy112]; with_reducible exact H) | (have H2_ := (Option.bind_some _ _).symm.trans H; rw [hy112]; with_reducible exact H2_) | (have H2_ := (Option.bind_some _ _).symm.trans H; with_reducible exact H2_) | with_reducible exact H | (rw [hy112]; exact H) | exact H
 have Ny112 := zA.mk hy112; clear hy112; replace H := Option.bind_eq_some_iff.mp H; obtain ⟨t115, A50, H⟩ := H; replace H : (some t115) = some r := H; have A5 := zA.mk A50; clear A50; obtain rfl := Option.some.inj H; go_enter Tryz.func37, Tryz.ntmps37
 try go_wp2_with (first | ((with_reducible refine wF (N := 2) rfl ?_); refine wA ?hg (N := 2) ?hd (cs := #[.int .i64 a0_0, .int .i64 a0_1, .int .i64 a0_2]) (t := 26) ?hr ?_; (case hd => rfl); (case hg => rfl); (case hr => first | (go_simp; done) | (go_simp; rfl)); intro zUT hg w6 hbox hb; have n0_ := zA.mk (zF (eG HB.out) hb); have n1_ := zA.mk (hbox); have n2_ := zA.mk ((by rw [hg]; exact (zE (eG HB.out)) : w.heap.size ≤ zUT)); have n3_ := zA.mk ((by rw [hg]; exact (zE (eG HB.out)) : w.heap.size ≤ zUT)); clear HB; have HB := n0_; have zBQ := n1_; have GW108 := n2_; have GE108 := n3_; have ig108_ := geI GE108; clear n0_ n1_ n2_ n3_; clear hb hbox hg) | ((with_reducible refine wF (N := 3) rfl ?_); refine wA ?hg (N := 3) ?hd (cs := #[.int .i64 a1_0, .int .i64 a1_1, .int .i64 a1_2]) (t := 26) ?hr ?_; (case hd => rfl); (case hg => rfl); (case hr => first | (go_simp; done) | (go_simp; rfl)); intro zUS hg w7 hbox hb; have n0_ := zA.mk (zG (bG zBQ.out) hb); have n1_ := zA.mk (zF (eG HB.out) hb); have n2_ := zA.mk (hbox); have n3_ := zA.mk ((by rw [hg]; exact (zE (eG HB.out)) : w.heap.size ≤ zUS)); have n4_ := zA.mk ((by rw [hg]; exact (zE (eG HB.out)) : w.heap.size ≤ zUS)); have n5_ := zA.mk ((by rw [hg]; exact Nat.ne_of_lt (wC (bG zBQ.out)) : zUT ≠ zUS)); have n6_ := zA.mk ((by rw [hg]; exact Nat.ne_of_gt (wC (bG zBQ.out)) : zUS ≠ zUT)); clear zBQ; clear HB; have zBQ := n0_; have HB := n1_; have zDM := n2_; have GW109 := n3_; have GE109 := n4_; have ig109_ := geI GE109; have NB108_109 := n5_; have NB109_108 := n6_; clear n0_ n1_ n2_ n3_ n4_ n5_ n6_; clear hb hbox hg))
 have n0_ := zA.mk (yX zBQ.out); have n1_ := zA.mk (yX zDM.out); have n2_ := zA.mk (yB HB.out); clear zBQ; clear zDM; clear HB; have zBQ := n0_; have zDM := n1_; have HB := n2_; clear n0_ n1_ n2_; refine zBS (n := 13) (S := fun w' => w'.cell? ⟨zUT, 0, none⟩ = some (.int .i64 a0_0) ∧ w'.cell? ⟨zUT, 1, none⟩ = some (.int .i64 a0_1) ∧ w'.cell? ⟨zUT, 2, none⟩ = some (.int .i64 a0_2) ∧ w'.cell? ⟨zUS, 0, none⟩ = some (.int .i64 a1_0) ∧ w'.cell? ⟨zUS, 1, none⟩ = some (.int .i64 a1_1) ∧ w'.cell? ⟨zUS, 2, none⟩ = some (.int .i64 a1_2)) (ds := []) #[false, false, false, false, false, false, false, false, false, false, false, false, false] (by kernel_rfl) rfl rfl ⟨(zC zBQ.out 0).trans rfl, (zC zBQ.out 1).trans rfl, (zC zBQ.out 2).trans rfl, (zC zDM.out 0).trans rfl, (zC zDM.out 1).trans rfl, (zC zDM.out 2).trans rfl⟩ (fun hHeld => ?_); refine uF vM.tab1 vM.bits1 (fun HT_ HW_ => ?_)
 generalize w7.drew = w8 at zBQ zDM HB hHeld ⊢; refine vD (i := 0) (N := some 5) (v := ?_) (a' := ?_) #[true, false, false, false, false, false, false, false, false, false, false, false, false] rfl rfl (wM HT_.out (by kernel_rfl)) (fun _ _ _ h => h) (Or.inl ⟨by rfl, ?_⟩) ?_ ?_; rotate_left
 · intro w'; go_simp; with_reducible rfl
 rotate_left
 · simp only [Act.put, sIA, sC0, sCS, wJ, wK]; rfl
 refine vD (i := 2) (N := some 7) (v := ?_) (a' := ?_) #[true, false, true, false, false, false, false, false, false, false, false, false, false] rfl rfl (wM HT_.out (by kernel_rfl)) (fun _ _ _ h => h) (Or.inl ⟨by rfl, ?_⟩) ?_ ?_; rotate_left
 · intro w'; go_simp; with_reducible rfl
 rotate_left
 · simp only [Act.put, sIA, sC0, sCS, wJ, wK]; rfl
 refine vD (i := 5) (N := some 10) (v := ?_) (a' := ?_) #[true, false, true, false, false, true, false, false, false, false, false, false, false] rfl rfl (wM HT_.out (by kernel_rfl)) (fun _ _ _ h => h) (Or.inl ⟨by rfl, ?_⟩) ?_ ?_; rotate_left
 · intro w'; go_simp; with_reducible rfl
 rotate_left
 · simp only [Act.put, sIA, sC0, sCS, wJ, wK]; rfl
 refine vD (i := 7) (N := some 12) (v := ?_) (a' := ?_) #[true, false, true, false, false, true, false, true, false, false, false, false, false] rfl rfl (wM HT_.out (by kernel_rfl)) (fun _ _ _ h => h) (Or.inl ⟨by rfl, ?_⟩) ?_ ?_; rotate_left
 · intro w'; go_simp; with_reducible rfl
 rotate_left
 · simp only [Act.put, sIA, sC0, sCS, wJ, wK]; rfl
 refine kL (i := 1) (N := some 6) (v := ?_) (a' := ?_) #[true, true, true, false, false, true, false, true, false, false, false, false, false] rfl rfl (qY HT_.out HW_.out (by kernel_rfl)) (fun _ _ _ h => h) (Or.inl ⟨by rfl, ?_⟩) hHeld ?_ ?_; rotate_left
 · rintro w' ⟨s0, s1, s2, s3, s4, s5⟩; go_simp; with_reducible rfl
 rotate_left
 · simp only [Act.put, sIA, sC0, sCS, wJ, wK]; rfl
 refine kL (i := 3) (N := some 8) (v := ?_) (a' := ?_) #[true, true, true, true, false, true, false, true, false, false, false, false, false] rfl rfl (qY HT_.out HW_.out (by kernel_rfl)) (fun _ _ _ h => h) (Or.inl ⟨by rfl, ?_⟩) hHeld ?_ ?_; rotate_left
 · rintro w' ⟨s0, s1, s2, s3, s4, s5⟩; go_simp; with_reducible rfl
 rotate_left
 · simp only [Act.put, sIA, sC0, sCS, wJ, wK]; rfl
 refine kL (i := 6) (N := some 11) (v := ?_) (a' := ?_) #[true, true, true, true, false, true, true, true, false, false, false, false, false] rfl rfl (qY HT_.out HW_.out (by kernel_rfl)) (fun _ _ _ h => h) (Or.inl ⟨by rfl, ?_⟩) hHeld ?_ ?_; rotate_left
 · rintro w' ⟨s0, s1, s2, s3, s4, s5⟩; go_simp; with_reducible rfl
 rotate_left
 · simp only [Act.put, sIA, sC0, sCS, wJ, wK]; rfl
 refine kL (i := 8) (N := some 13) (v := ?_) (a' := ?_) #[true, true, true, true, false, true, true, true, true, false, false, false, false] rfl rfl (qY HT_.out HW_.out (by kernel_rfl)) (fun _ _ _ h => h) (Or.inl ⟨by rfl, ?_⟩) hHeld ?_ ?_; rotate_left
 · rintro w' ⟨s0, s1, s2, s3, s4, s5⟩; go_simp; with_reducible rfl
 rotate_left
 · simp only [Act.put, sIA, sC0, sCS, wJ, wK]; rfl
 refine one_ (i := 4) (N := some 9) #[true, true, true, true, true, true, true, true, true, false, false, false, false] rfl rfl (kH HT_.out (by kernel_rfl)) (by decide) (fun K hK => ?_); refine zDC Tryz.func65 (by kernel_rfl) rfl #[.int .i64 a0_0, .int .i64 a1_0] (by rfl) rfl rfl (by (try simp only [List.map_toArray, List.map_cons, List.map_nil]); first | done | rfl | (simp only [List.length_drop, List.length_take]; rfl)) ?_; with_reducible refine (yO.calls a0_0 a1_0 t110 _ A3.out).mono ?_
 rintro e w' ⟨rfl, ⟨nd, rfl⟩⟩; refine ⟨_, rfl, ?_⟩; refine hK.out _ _ ⟨(zC zBQ.out 0).trans rfl, (zC zBQ.out 1).trans rfl, (zC zBQ.out 2).trans rfl, (zC zDM.out 0).trans rfl, (zC zDM.out 1).trans rfl, (zC zDM.out 2).trans rfl⟩ (fun hHeld => ?_); clear hK K; refine uB (a' := ?_) ?_ ?_; rotate_left
 ·
  show Act.put _ (some 9) _ = _
  simp only [Act.put, sIA, sC0, sCS, wJ, wK]; rfl
 refine one_ (i := 9) (N := some 14) #[true, true, true, true, true, true, true, true, true, true, false, false, false] rfl rfl (kH HT_.out (by kernel_rfl)) (by decide) (fun K hK => ?_); refine zDC Tryz.func65 (by kernel_rfl) rfl #[.int .i64 a0_1, .int .i64 a1_1] (by rfl) rfl rfl (by (try simp only [List.map_toArray, List.map_cons, List.map_nil]); first | done | rfl | (simp only [List.length_drop, List.length_take]; rfl)) ?_; with_reducible refine (yO.calls a0_1 a1_1 t111 _ A4.out).mono ?_
 rintro e w' ⟨rfl, ⟨nd, rfl⟩⟩; refine ⟨_, rfl, ?_⟩; refine hK.out _ _ ⟨(zC zBQ.out 0).trans rfl, (zC zBQ.out 1).trans rfl, (zC zBQ.out 2).trans rfl, (zC zDM.out 0).trans rfl, (zC zDM.out 1).trans rfl, (zC zDM.out 2).trans rfl⟩ (fun hHeld => ?_); clear hK K; refine uB (a' := ?_) ?_ ?_; rotate_left
 ·
  show Act.put _ (some 14) _ = _
  simp only [Act.put, sIA, sC0, sCS, wJ, wK]; rfl
 refine one_ (i := 10) (N := some 15) #[true, true, true, true, true, true, true, true, true, true, true, false, false] rfl rfl (kH HT_.out (by kernel_rfl)) (by decide) (fun K hK => ?_); refine Kd.zJN (Kd.int .i64) _ 3 ?hg (N := 15) ?hd (xs := ([t110, t111] : List Int)) (inner := [.int .i64 t110, .int .i64 t111]) (ok := fun _ => True) (okp := fun _ => True) ?hr ?hp (fun _ hk => hk) trivial (Below.refl _ _) (Nat.le_refl _) (by simp) ?_; (case hd => rfl); (case hg => rfl); (case hr => first | (go_simp; done) | (go_simp; rfl)); (case hp => exact (Reps.one (show Kd.M (Kd.int .i64) _ _ _ t110 [.int .i64 t110] from rfl) (Reps.one (show Kd.M (Kd.int .i64) _ _ _ t111 [.int .i64 t111] from rfl) (Reps.none _ _))))
 intro v113 w9 ho10 hb hg_ hnew_; clear hg_ hnew_; (first | rw [← Ny112.out] at ho10 | (simp only [Int.reduceToNat] at ho10; rw [← Ny112.out] at ho10))
 have n0_ := zA.mk (Kd.yK ho10 (zE (eG HB.out))); have n1_ := zA.mk (zG (bG zBQ.out) hb); have n2_ := zA.mk (zG (bG zDM.out) hb); have n3_ := zA.mk (zF (eG HB.out) hb); clear zBQ; clear zDM; clear HB; have HO114 := n0_; have zBQ := n1_; have zDM := n2_; have HB := n3_; clear n0_ n1_ n2_ n3_; clear hb ho10; obtain ⟨Ao11, co11, eo11⟩ := Kd.vG HO114.out; (first | subst eo11 | (injection eo11 with f1_ f2_ f3_; have f4_ := f1_.symm; have f5_ := f3_.symm; clear f1_ f2_ f3_; subst f4_; subst f5_))
 refine hK.out _ _ ⟨(zC zBQ.out 0).trans rfl, (zC zBQ.out 1).trans rfl, (zC zBQ.out 2).trans rfl, (zC zDM.out 0).trans rfl, (zC zDM.out 1).trans rfl, (zC zDM.out 2).trans rfl⟩ (fun hHeld => ?_); clear hK K; refine uB (a' := ?_) ?_ ?_; rotate_left
 ·
  show Act.put _ (some 15) _ = _
  simp only [Act.put, sIA, sC0, sCS, wJ, wK]; rfl
 refine one_ (i := 11) (N := some 16) #[true, true, true, true, true, true, true, true, true, true, true, true, false] rfl rfl (kH HT_.out (by kernel_rfl)) (by decide) (fun K hK => ?_); refine zDC Tryz.func64 (by kernel_rfl) rfl #[.slice Ao11 y112.length co11] (by rfl) rfl rfl (by (try simp only [List.map_toArray, List.map_cons, List.map_nil]); first | done | rfl | (simp only [List.length_drop, List.length_take]; rfl)) ?_; with_reducible refine (yU.calls k _ _ y112 t115 _ ?side1 ?side2 A5.out).mono ?_
 (case side1 => repeat (first | exact (Kd.zU HO114.out).2.2 | (with_reducible refine Kd.vZ ?_ _) | (with_reducible refine Kd.vY ?_ _) | (with_reducible refine Kd.qU ?_)))
 (case side2 => exact (Kd.zU HO114.out).2.1)
 rintro e w' ⟨rfl, ⟨nd, rfl⟩⟩; refine ⟨_, rfl, ?_⟩; refine hK.out _ _ ⟨(zC zBQ.out 0).trans rfl, (zC zBQ.out 1).trans rfl, (zC zBQ.out 2).trans rfl, (zC zDM.out 0).trans rfl, (zC zDM.out 1).trans rfl, (zC zDM.out 2).trans rfl⟩ (fun hHeld => ?_); clear hK K; refine uB (a' := ?_) ?_ ?_; rotate_left
 ·
  show Act.put _ (some 16) _ = _
  simp only [Act.put, sIA, sC0, sCS, wJ, wK]; rfl
 refine vD (i := 12) (N := some 4) (v := ?_) (a' := ?_) #[true, true, true, true, true, true, true, true, true, true, true, true, true] rfl rfl (wM HT_.out (by kernel_rfl)) (fun _ _ _ h => h) (Or.inl ⟨by rfl, ?_⟩) ?_ ?_; rotate_left
 · intro w'; go_simp; with_reducible rfl
 rotate_left
 · simp only [Act.put, sIA, sC0, sCS, wJ, wK]; rfl
 refine zFQ (zAL HT_.out (by kernel_rfl)) ?_; try go_wp2
 go_ret
 exact ⟨by first | rfl | (simp [zN, zM] <;> rfl) | (simp [*, zN, zM] <;> rfl), eG HB.out⟩
end Go.Proofs.YtholbmidciapdaaGreatDoor.Pr
namespace Go.Proofs.YtholbmidciapdaaGreatDoor.Pr
open Go.RowKit Go.Proofs.YtholbmidciapdaaGreatDoorW.PrintWords Go.Proofs.YtholbmidciapdaaGreatDoorW.PrintLast Go.Proofs.YtholbmidciapdaaGreatDoorW.PrintMore Go.Proofs.YtholbmidciapdaaGreatDoor.X
attribute [local go_sem] uR uP kP kO jN jM uQ uO   -- for this text's walks alone
set_option linter.unusedVariables false
set_option linter.unusedSimpArgs false
def wU.l0 : Nat → List (S26) → Int → Int → Int → List (S26) → Option (Int × Int)
 | 0, _, _, _, _, _ => none
 | k + 1, x17, x18, x19, zXT, zJB => if x19 < x18 then (if 0 ≤ x19 then (if x19 < (x17.length : Int) then ((qP.f ((zH x17 x19).f0) ((zH x17 x19).f1) ((zH x17 x19).f2)).bind fun t120 => (if t120 = true then (if x19 > 0 then (if 0 ≤ (wrap64 (x19 - 1)) then (if (wrap64 (x19 - 1)) < (zJB.length : Int) then ((vM.f k ((zH zJB (wrap64 (x19 - 1))).f0) ((zH zJB (wrap64 (x19 - 1))).f1) ((zH zJB (wrap64 (x19 - 1))).f2) ((zH x17 x19).f0) ((zH x17 x19).f1) ((zH x17 x19).f2)).bind fun t122 => (if t122 ≥ 0 then (some (x19, 5)) else (wU.l0 k x17 x18 (wrap64 (x19 + 1)) zXT zJB))) else (none)) else (none)) else (wU.l0 k x17 x18 (wrap64 (x19 + 1)) zXT zJB)) else (some (x19, 2)))) else (none)) else (none)) else (some ((-1), 0))
def wU.f (k : Nat) (a0_0 : Int) (l0_1 : List (S26)) : Option (Int × Int) := (zR.f a0_0 1 4).bind fun t117 => (if t117 = true then (if (l0_1.length : Int) > 64 then (some ((-1), 8)) else (wU.l0 k l0_1 (l0_1.length : Int) 0 a0_0 l0_1)) else (some ((-1), 2)))
def wU.T10 : Bool × List (List Nat × List Nat) := (true, [([], []), ([0], [0]), ([1], [1]), ([2], [2]), ([3, 2], [2, 3]), ([2], [2]), ([5, 2], [2, 5]), ([4, 6, 2], [2, 4, 6]), ([7, 2], [2, 7]), ([2], [2]), ([8, 9, 2, 2], [2, 8, 9]), ([10, 2], [2, 10]), ([2, 11], [2, 11]), ([12, 10], [12])])
def wU.B10 : List Nat := [0, 1, 3, 7, 15, 7, 39, 127, 255, 7, 1023, 2047, 4095, 8191]
theorem wU.zRL : rtab .any (opsOf Tryz.f13 10) = wU.T10 := by kernel_rfl
theorem wU.zLP : zBX wU.T10.2 wU.B10 = true := by kernel_rfl
set_option maxHeartbeats 8000000 in
set_option maxRecDepth 100000 in
theorem wU.calls (k : Nat) (a0_0 : Int) (A0_1 : Option Addr) (c0_1 : Nat) (l0_1 : List (S26)) (r1 : Int) (r2 : Int) (w : World) (hr0_1 : Kd.C k26 w A0_1 l0_1.length l0_1) (uG : l0_1.length ≤ c0_1) (h : wU.f k a0_0 l0_1 = some (r1, r2)) :
  Calls Tryz.prog 13 #[.agg #[.int .i64 a0_0, .slice A0_1 l0_1.length c0_1]] w fun e w' => e = .returned (.tuple #[.int .i64 r1, .int .i64 r2]) ∧ Below w.heap.size w w' := by
 have hu24 := Tryz.underlying24; have hu26 := Tryz.underlying26; have HR0_1 := zA.mk hr0_1; have HC0_1 := zA.mk uG; clear hr0_1 uG; have HB := zA.mk (Below.refl w.heap.size w); have H : ((zR.f a0_0 1 4).bind fun t117 => (if t117 = true then (if (l0_1.length : Int) > 64 then (some ((-1), 8)) else (wU.l0 k l0_1 (l0_1.length : Int) 0 a0_0 l0_1)) else (some ((-1), 2)))) = some (r1, r2) := h; clear h; replace H := Option.bind_eq_some_iff.mp H; obtain ⟨t117, A20, H⟩ := H; replace H : (if t117 = true then (if (l0_1.length : Int) > 64 then (some ((-1), 8)) else (wU.l0 k l0_1 (l0_1.length : Int) 0 a0_0 l0_1)) else (some ((-1), 2))) = some (r1, r2) := H; have A2 := zA.mk A20; clear A20; by_cases c3 : t117 = true
 ·
  subst c3; replace H : (if (l0_1.length : Int) > 64 then (some ((-1), 8)) else (wU.l0 k l0_1 (l0_1.length : Int) 0 a0_0 l0_1)) = some (r1, r2) := by rw [if_pos rfl] at H; exact H
  by_cases c4 : (l0_1.length : Int) > 64
  ·
   rw [if_pos c4] at H; have c4b0 : decide (64 < (l0_1.length : Int)) = true := decide_eq_true c4; have c4b1 : decide (64 < l0_1.length) = true := decide_eq_true (by omega); clear c4; simp only [Option.some.injEq, Prod.mk.injEq] at H; obtain ⟨rfl, rfl⟩ := H; go_enter Tryz.func13, Tryz.ntmps13
   go_wp2_with (first | ((with_reducible refine wF (N := 1) rfl ?_); refine wA ?hg (N := 1) ?hd (cs := #[.int .i64 a0_0, .slice A0_1 l0_1.length c0_1]) (t := 24) ?hr ?_; (case hd => rfl); (case hg => rfl); (case hr => first | (go_simp; done) | (go_simp; rfl)); intro zBA hg w5 hbox hb; have n0_ := zA.mk (zF (eG HB.out) hb); have n1_ := zA.mk (hbox); have n2_ := zA.mk ((by rw [hg]; exact (zE (eG HB.out)) : w.heap.size ≤ zBA)); have n3_ := zA.mk ((by rw [hg]; exact (zE (eG HB.out)) : w.heap.size ≤ zBA)); clear HB; have HB := n0_; have yJ := n1_; have GW116 := n2_; have wBX := n3_; have ig116_ := geI wBX; clear n0_ n1_ n2_ n3_; clear hb hbox hg; have zND : w5.cell? ⟨zBA, 0, none⟩ = some (.int .i64 a0_0) := (zC yJ.out 0).trans rfl; have zNC : w5.cell? ⟨zBA, 1, none⟩ = some (.slice A0_1 l0_1.length c0_1) := (zC yJ.out 1).trans rfl; have zNB := zB yJ.out 0; have zNA := zB yJ.out 1) | ((with_reducible refine zQ (f := 35) rfl ?_); refine vB (some 9) rfl rfl Tryz.func35 (by kernel_rfl) rfl #[.int .i64 a0_0, .int .i64 1, .int .i64 4] rfl (by (try simp only [List.map_toArray, List.map_cons, List.map_nil]); first | done | rfl | (simp only [List.length_drop, List.length_take]; rfl)) ?_; (with_reducible refine (zR.calls a0_0 1 4 true _ A2.out).mono ?_); rintro e w' ⟨rfl, ⟨nd, rfl⟩⟩; refine ⟨_, rfl, ?_⟩))
   go_ret2
   exact ⟨by first | rfl | (simp [zN, zM] <;> rfl) | (simp [*, zN, zM] <;> rfl), eG HB.out⟩
  ·
   rw [if_neg c4] at H; have c4b0 : decide (64 < (l0_1.length : Int)) = false := decide_eq_false c4; have c4b1 : decide (64 < l0_1.length) = false := decide_eq_false (by omega); clear c4; have H' := zA.mk H; clear H; go_enter Tryz.func13, Tryz.ntmps13
   go_wp2_with (first | ((with_reducible refine wF (N := 1) rfl ?_); refine wA ?hg (N := 1) ?hd (cs := #[.int .i64 a0_0, .slice A0_1 l0_1.length c0_1]) (t := 24) ?hr ?_; (case hd => rfl); (case hg => rfl); (case hr => first | (go_simp; done) | (go_simp; rfl)); intro zBA hg w7 hbox hb; have n0_ := zA.mk (zF (eG HB.out) hb); have n1_ := zA.mk (hbox); have n2_ := zA.mk ((by rw [hg]; exact (zE (eG HB.out)) : w.heap.size ≤ zBA)); have n3_ := zA.mk ((by rw [hg]; exact (zE (eG HB.out)) : w.heap.size ≤ zBA)); clear HB; have HB := n0_; have yJ := n1_; have GW116 := n2_; have wBX := n3_; have ig116_ := geI wBX; clear n0_ n1_ n2_ n3_; clear hb hbox hg; have zFM : w7.cell? ⟨zBA, 0, none⟩ = some (.int .i64 a0_0) := (zC yJ.out 0).trans rfl; have zFL : w7.cell? ⟨zBA, 1, none⟩ = some (.slice A0_1 l0_1.length c0_1) := (zC yJ.out 1).trans rfl; have zFK := zB yJ.out 0; have zFJ := zB yJ.out 1) | ((with_reducible refine zQ (f := 35) rfl ?_); refine vB (some 9) rfl rfl Tryz.func35 (by kernel_rfl) rfl #[.int .i64 a0_0, .int .i64 1, .int .i64 4] rfl (by (try simp only [List.map_toArray, List.map_cons, List.map_nil]); first | done | rfl | (simp only [List.length_drop, List.length_take]; rfl)) ?_; (with_reducible refine (zR.calls a0_0 1 4 true _ A2.out).mono ?_); rintro e w' ⟨rfl, ⟨nd, rfl⟩⟩; refine ⟨_, rfl, ?_⟩))
   go_loopg [19] k (fun kq v19 w' => ∃ (x19_1 : Int), v19 = .int .i64 x19_1 ∧ zA (wU.l0 kq l0_1 (l0_1.length : Int) x19_1 a0_0 l0_1 = some (r1, r2)) ∧ zA (kq ≤ k) ∧ zA (w'.heap[zBA]? = some (.cells #[.int .i64 a0_0, (.slice A0_1 l0_1.length c0_1)] 24 (0, 0))) ∧ zA (Below w.heap.size w w'))
   case atStart => exact ⟨(0), (by first | rfl | (simp; done) | (simp [*]; done)), H', ⟨Nat.le_refl _⟩, ⟨by (with_reducible repeat first | apply bN | apply bD | apply bA); exact yJ.out⟩, ⟨eG HB.out⟩⟩
   case round =>
    clear H'; repeat first | clear c1 | clear p2 | clear c3 | clear c4 | clear c4b0 | clear c4b1 | clear zND | clear zNC | clear zFM | clear zFL | clear zNB | clear zNA | clear zFK | clear zFJ
    obtain ⟨x19_1, rfl, HA, HK1, yJ, HB⟩ := hrel
    cases gk with
    | zero => exact absurd HA.out (by simp [wU.l0])
    | succ k1 =>
     have H := HA.out; clear HA; simp only [wU.l0] at H; by_cases c9 : x19_1 < (l0_1.length : Int)
     ·
      rw [if_pos c9] at H; have c9b0 : decide (x19_1 < (l0_1.length : Int)) = true := decide_eq_true c9; clear c9; by_cases c10 : 0 ≤ x19_1
      ·
       rw [if_pos c10] at H; have c10b0 : decide (0 ≤ x19_1) = true := decide_eq_true c10; clear c10; by_cases c11 : x19_1 < (l0_1.length : Int)
       ·
        rw [if_pos c11] at H; have c11b0 : decide (x19_1 < (l0_1.length : Int)) = true := decide_eq_true c11; clear c11; replace H := Option.bind_eq_some_iff.mp H; obtain ⟨t120, A120, H⟩ := H; replace H : (if t120 = true then (if x19_1 > 0 then (if 0 ≤ (wrap64 (x19_1 - 1)) then (if (wrap64 (x19_1 - 1)) < (l0_1.length : Int) then ((vM.f k1 ((zH l0_1 (wrap64 (x19_1 - 1))).f0) ((zH l0_1 (wrap64 (x19_1 - 1))).f1) ((zH l0_1 (wrap64 (x19_1 - 1))).f2) ((zH l0_1 x19_1).f0) ((zH l0_1 x19_1).f1) ((zH l0_1 x19_1).f2)).bind fun t122 => (if t122 ≥ 0 then (some (x19_1, 5)) else (wU.l0 k1 l0_1 (l0_1.length : Int) (wrap64 (x19_1 + 1)) a0_0 l0_1))) else (none)) else (none)) else (wU.l0 k1 l0_1 (l0_1.length : Int) (wrap64 (x19_1 + 1)) a0_0 l0_1)) else (some (x19_1, 2))) = some (r1, r2) := H; have A12 := zA.mk A120; clear A120; by_cases c13 : t120 = true
        ·
         subst c13; replace H : (if x19_1 > 0 then (if 0 ≤ (wrap64 (x19_1 - 1)) then (if (wrap64 (x19_1 - 1)) < (l0_1.length : Int) then ((vM.f k1 ((zH l0_1 (wrap64 (x19_1 - 1))).f0) ((zH l0_1 (wrap64 (x19_1 - 1))).f1) ((zH l0_1 (wrap64 (x19_1 - 1))).f2) ((zH l0_1 x19_1).f0) ((zH l0_1 x19_1).f1) ((zH l0_1 x19_1).f2)).bind fun t122 => (if t122 ≥ 0 then (some (x19_1, 5)) else (wU.l0 k1 l0_1 (l0_1.length : Int) (wrap64 (x19_1 + 1)) a0_0 l0_1))) else (none)) else (none)) else (wU.l0 k1 l0_1 (l0_1.length : Int) (wrap64 (x19_1 + 1)) a0_0 l0_1)) = some (r1, r2) := by rw [if_pos rfl] at H; exact H
         by_cases c14 : x19_1 > 0
         ·
          rw [if_pos c14] at H; have c14b0 : decide (0 < x19_1) = true := decide_eq_true c14; clear c14; obtain ⟨ji15, hji15⟩ : ∃ j_ : Int, (wrap64 (x19_1 - 1)) = j_ := ⟨_, rfl⟩; replace H : (if 0 ≤ (ji15) then (if (ji15) < (l0_1.length : Int) then ((vM.f k1 ((zH l0_1 (ji15)).f0) ((zH l0_1 (ji15)).f1) ((zH l0_1 (ji15)).f2) ((zH l0_1 x19_1).f0) ((zH l0_1 x19_1).f1) ((zH l0_1 x19_1).f2)).bind fun t122 => (if t122 ≥ 0 then (some (x19_1, 5)) else (wU.l0 k1 l0_1 (l0_1.length : Int) (wrap64 (x19_1 + 1)) a0_0 l0_1))) else (none)) else (none)) = some (r1, r2) := by first | (rw [hji15] at H; exact H) | (simp only [hji15] at H ⊢; exact H)
          (try rw [hji15] at A12)
          have hji15w : (IntKind.i64.wrap (x19_1 - 1)) = ji15 := (wJ _).trans hji15; by_cases c16 : 0 ≤ (ji15)
          ·
           rw [if_pos c16] at H; have c16b0 : decide (0 ≤ (ji15)) = true := decide_eq_true c16; clear c16; by_cases c17 : (ji15) < (l0_1.length : Int)
           ·
            rw [if_pos c17] at H; have c17b0 : decide ((ji15) < (l0_1.length : Int)) = true := decide_eq_true c17; clear c17; replace H := Option.bind_eq_some_iff.mp H; obtain ⟨t122, A180, H⟩ := H; replace H : (if t122 ≥ 0 then (some (x19_1, 5)) else (wU.l0 k1 l0_1 (l0_1.length : Int) (wrap64 (x19_1 + 1)) a0_0 l0_1)) = some (r1, r2) := H; have A18 := zA.mk A180; clear A180; by_cases c19 : t122 ≥ 0
            ·
             rw [if_pos c19] at H; have c19b0 : decide (0 ≤ t122) = true := decide_eq_true c19; clear c19; simp only [Option.some.injEq, Prod.mk.injEq] at H; obtain ⟨rfl, rfl⟩ := H; have p118 : 0 ≤ (x19_1 : Int) := of_decide_eq_true (by first | (with_reducible assumption) | assumption); have q118 : x19_1 < (l0_1.length : Int) := of_decide_eq_true (by first | (with_reducible assumption) | assumption); obtain ⟨ad118, e118, zAZ, zAY, zAX⟩ := uM HR0_1.out x19_1 p118 q118; cases e118; replace zAZ := (HB.out.cell (World.block_lt_of_cell? w _ zAZ)).trans zAZ; replace zAY := (HB.out.cell (World.block_lt_of_cell? w _ zAY)).trans zAY; replace zAX := (HB.out.cell (World.block_lt_of_cell? w _ zAX)).trans zAX; replace p118 := eq_true p118; replace q118 := eq_true q118; try go_wp2_with (first | ((with_reducible refine wF (N := 5) rfl ?_); refine wA ?hg (N := 5) ?hd (cs := #[.int .i64 0, .int .i64 0, .int .i64 0]) (t := 26) ?hr ?_; (case hd => rfl); (case hg => rfl); (case hr => first | (go_simp; done) | (go_simp; rfl)); intro kI hg w20 hbox hb; have n0_ := zA.mk (zG (bG yJ.out) hb); have n1_ := zA.mk (zF (eG HB.out) hb); have n2_ := zA.mk (hbox); have n3_ := zA.mk ((by rw [hg]; exact (zE (eG HB.out)) : w.heap.size ≤ kI)); have n4_ := zA.mk ((by rw [hg]; exact (zE (eG HB.out)) : w.heap.size ≤ kI)); have n5_ := zA.mk ((by rw [hg]; exact Nat.ne_of_lt (wC (bG yJ.out)) : zBA ≠ kI)); have n6_ := zA.mk ((by rw [hg]; exact Nat.ne_of_gt (wC (bG yJ.out)) : kI ≠ zBA)); clear yJ; clear HB; have yJ := n0_; have HB := n1_; have yV := n2_; have GW119 := n3_; have zVI := n4_; have zYZ := geI zVI; have jI := n5_; have zDI := n6_; clear n0_ n1_ n2_ n3_ n4_ n5_ n6_; clear hb hbox hg; have zWR := zDI.out; have zWQ := jI.out; have zHJ : w20.cell? ⟨kI, 0, none⟩ = some (.int .i64 0) := (zC yV.out 0).trans rfl; have zHI : w20.cell? ⟨kI, 1, none⟩ = some (.int .i64 0) := (zC yV.out 1).trans rfl; have wAK : w20.cell? ⟨kI, 2, none⟩ = some (.int .i64 0) := (zC yV.out 2).trans rfl; have zHD := zB yV.out 0; have zHC := zB yV.out 1; have zZQ := zB yV.out 2) | ((with_reducible refine zQ (f := 36) rfl ?_); refine vB (some 26) rfl rfl Tryz.func36 (by kernel_rfl) rfl #[.agg #[.int .i64 ((zH l0_1 x19_1).f0), .int .i64 ((zH l0_1 x19_1).f1), .int .i64 ((zH l0_1 x19_1).f2)]] rfl (by (try simp only [List.map_toArray, List.map_cons, List.map_nil]); first | done | rfl | (simp only [List.length_drop, List.length_take]; rfl)) ?_; (with_reducible refine (qP.calls ((zH l0_1 x19_1).f0) ((zH l0_1 x19_1).f1) ((zH l0_1 x19_1).f2) true _ A12.out).mono ?_); rintro e w23 ⟨rfl, hb⟩; refine ⟨_, rfl, ?_⟩; have n0_ := zA.mk (zG (g := zBA) (o := .cells #[.int .i64 a0_0, .slice (some ad118) l0_1.length c0_1] 24 (0, 0)) (by (with_reducible repeat first | apply bN | apply bD | apply bA); refine zV ?_ jI.out _; (with_reducible repeat first | apply bN | apply bD | apply bA); refine zV ?_ jI.out _; (with_reducible repeat first | apply bN | apply bD | apply bA); refine zV ?_ jI.out _; (with_reducible repeat first | apply bN | apply bD | apply bA); exact yJ.out) hb); have n1_ := zA.mk (zG (g := kI) (o := .cells #[.int .i64 ((zH l0_1 x19_1).f0), .int .i64 ((zH l0_1 x19_1).f1), .int .i64 ((zH l0_1 x19_1).f2)] 26 (0, 0)) (by (with_reducible repeat first | apply bN | apply bD | apply bA); refine wE (cs := #[.int .i64 ((zH l0_1 x19_1).f0), .int .i64 ((zH l0_1 x19_1).f1), .int .i64 0]) ?_ 2 _ rfl; (with_reducible repeat first | apply bN | apply bD | apply bA); refine wE (cs := #[.int .i64 ((zH l0_1 x19_1).f0), .int .i64 0, .int .i64 0]) ?_ 1 _ rfl; (with_reducible repeat first | apply bN | apply bD | apply bA); refine wE (cs := #[.int .i64 0, .int .i64 0, .int .i64 0]) ?_ 0 _ rfl; (with_reducible repeat first | apply bN | apply bD | apply bA); exact yV.out) hb); have n2_ := zA.mk (zF (eG HB.out) hb); clear yJ; clear yV; clear HB; have yJ := n0_; have yV := n1_; have HB := n2_; clear n0_ n1_ n2_; (try clear hb); (try clear hb2); (try clear hk); (try clear hi)))
             have n0_ := zA.mk (yX yJ.out); have n1_ := zA.mk (yX yV.out); have n2_ := zA.mk (yB HB.out); clear yJ; clear yV; clear HB; have yJ := n0_; have yV := n1_; have HB := n2_; clear n0_ n1_ n2_; have p121 : 0 ≤ ((ji15) : Int) := of_decide_eq_true (by first | (with_reducible assumption) | assumption); have q121 : (ji15) < (l0_1.length : Int) := of_decide_eq_true (by first | (with_reducible assumption) | assumption); obtain ⟨ad121, e121, zDB, zDA, zCZ⟩ := uM HR0_1.out (ji15) p121 q121; have hw121_2 := zCZ; have hw121_1 := zDA; have hw121_0 := zDB; obtain rfl : ad118 = ad121 := (by injection e121); replace zDB := (HB.out.cell (World.block_lt_of_cell? w _ zDB)).trans zDB; replace zDA := (HB.out.cell (World.block_lt_of_cell? w _ zDA)).trans zDA; replace zCZ := (HB.out.cell (World.block_lt_of_cell? w _ zCZ)).trans zCZ; replace p121 := eq_true p121; replace q121 := eq_true q121; refine zBS (n := 14) (S := fun w' => w'.cell? ⟨zBA, 0, none⟩ = some (.int .i64 a0_0) ∧ w'.cell? ⟨zBA, 1, none⟩ = some (.slice (some ad118) l0_1.length c0_1) ∧ w'.cell? ⟨kI, 0, none⟩ = some (.int .i64 ((zH l0_1 x19_1).f0)) ∧ w'.cell? ⟨kI, 1, none⟩ = some (.int .i64 ((zH l0_1 x19_1).f1)) ∧ w'.cell? ⟨kI, 2, none⟩ = some (.int .i64 ((zH l0_1 x19_1).f2)) ∧ w'.cell? (ad118.add (((ji15)).toNat * 3)) = some (.int .i64 ((zH l0_1 (ji15)).f0)) ∧ w'.cell? ⟨(ad118.add (((ji15)).toNat * 3)).block, (ad118.add (((ji15)).toNat * 3)).off + 1, none⟩ = some (.int .i64 ((zH l0_1 (ji15)).f1)) ∧ w'.cell? ⟨(ad118.add (((ji15)).toNat * 3)).block, (ad118.add (((ji15)).toNat * 3)).off + 2, none⟩ = some (.int .i64 ((zH l0_1 (ji15)).f2))) (ds := []) #[false, false, false, false, false, false, false, false, false, false, false, false, false, false] (by kernel_rfl) rfl rfl ⟨(zC yJ.out 0).trans rfl, (zC yJ.out 1).trans rfl, (zC yV.out 0).trans rfl, (zC yV.out 1).trans rfl, (zC yV.out 2).trans rfl, ((HB.out.cell (World.block_lt_of_cell? w _ hw121_0)).trans hw121_0), ((HB.out.cell (World.block_lt_of_cell? w _ hw121_1)).trans hw121_1), ((HB.out.cell (World.block_lt_of_cell? w _ hw121_2)).trans hw121_2)⟩ (fun hHeld => ?_); refine uF wU.zRL wU.zLP (fun HT_ HW_ => ?_)
             generalize w23.drew = w24 at yJ yV HB zDB zDA zCZ hHeld ⊢; refine vD (i := 0) (N := some 30) (v := ?_) (a' := ?_) #[true, false, false, false, false, false, false, false, false, false, false, false, false, false] rfl rfl (wM HT_.out (by kernel_rfl)) (fun _ _ _ h => h) (Or.inl ⟨by rfl, ?_⟩) ?_ ?_; rotate_left
             · intro w'; go_simp; with_reducible rfl
             rotate_left
             · simp only [Act.put, sIA, sC0, sCS, wJ, wK]; rfl
             refine vD (i := 1) (N := some 31) (v := ?_) (a' := ?_) #[true, true, false, false, false, false, false, false, false, false, false, false, false, false] rfl rfl (wM HT_.out (by kernel_rfl)) (fun _ _ _ h => h) (Or.inl ⟨by rfl, ?_⟩) ?_ ?_; rotate_left
             · intro w'; go_simp; with_reducible rfl
             rotate_left
             · simp only [Act.put, sIA, sC0, sCS, wJ, wK]; rfl
             refine vD (i := 2) (N := some 32) (v := ?_) (a' := ?_) #[true, true, true, false, false, false, false, false, false, false, false, false, false, false] rfl rfl (wM HT_.out (by kernel_rfl)) (fun _ _ _ h => h) (Or.inl ⟨by rfl, ?_⟩) ?_ ?_; rotate_left
             · intro w'; go_simp; with_reducible rfl
             rotate_left
             · simp only [Act.put, sIA, sC0, sCS, wJ, wK]; rfl
             refine vD (i := 3) (N := some 33) (v := ?_) (a' := ?_) #[true, true, true, true, false, false, false, false, false, false, false, false, false, false] rfl rfl (wM HT_.out (by kernel_rfl)) (fun _ _ _ h => h) (Or.inl ⟨by rfl, ?_⟩) ?_ ?_; rotate_left
             · intro w'; go_simp; with_reducible rfl
             rotate_left
             · simp only [Act.put, sIA, sC0, sCS, wJ, wK]; rfl
             refine vD (i := 5) (N := some 35) (v := ?_) (a' := ?_) #[true, true, true, true, false, true, false, false, false, false, false, false, false, false] rfl rfl (wM HT_.out (by kernel_rfl)) (fun _ _ _ h => h) (Or.inl ⟨by rfl, ?_⟩) ?_ ?_; rotate_left
             · intro w'; go_simp; with_reducible rfl
             rotate_left
             · simp only [Act.put, sIA, sC0, sCS, wJ, wK]; rfl
             refine vD (i := 6) (N := some 36) (v := ?_) (a' := ?_) #[true, true, true, true, false, true, true, false, false, false, false, false, false, false] rfl rfl (wM HT_.out (by kernel_rfl)) (fun _ _ _ h => h) (Or.inl ⟨by rfl, ?_⟩) ?_ ?_; rotate_left
             · intro w'; go_simp; with_reducible rfl
             rotate_left
             · simp only [Act.put, sIA, sC0, sCS, wJ, wK]; rfl
             refine kL (i := 4) (N := some 34) (v := ?_) (a' := ?_) #[true, true, true, true, true, true, true, false, false, false, false, false, false, false] rfl rfl (qY HT_.out HW_.out (by kernel_rfl)) (fun _ _ _ h => h) (Or.inl ⟨by rfl, ?_⟩) hHeld ?_ ?_; rotate_left
             · rintro w' ⟨s0, s1, s2, s3, s4, s5, s6, s7⟩; go_simp; with_reducible rfl
             rotate_left
             · simp only [Act.put, sIA, sC0, sCS, wJ, wK]; rfl
             refine vD (i := 7) (N := some 37) (v := ?_) (a' := ?_) #[true, true, true, true, true, true, true, true, false, false, false, false, false, false] rfl rfl (wM HT_.out (by kernel_rfl)) (fun _ _ _ h => h) (Or.inl ⟨by rfl, ?_⟩) ?_ ?_; rotate_left
             · intro w'; go_simp; with_reducible rfl
             rotate_left
             · simp only [Act.put, sIA, sC0, sCS, wJ, wK]; rfl
             refine kL (i := 8) (N := some 38) (v := ?_) (a' := ?_) #[true, true, true, true, true, true, true, true, true, false, false, false, false, false] rfl rfl (qY HT_.out HW_.out (by kernel_rfl)) (fun _ _ _ h => h) (Or.inl ⟨by rfl, ?_⟩) hHeld ?_ ?_; rotate_left
             · rintro w' ⟨s0, s1, s2, s3, s4, s5, s6, s7⟩; go_simp; with_reducible rfl
             rotate_left
             · simp only [Act.put, sIA, sC0, sCS, wJ, wK]; rfl
             refine kL (i := 9) (N := some 39) (v := ?_) (a' := ?_) #[true, true, true, true, true, true, true, true, true, true, false, false, false, false] rfl rfl (qY HT_.out HW_.out (by kernel_rfl)) (fun _ _ _ h => h) (Or.inl ⟨by rfl, ?_⟩) hHeld ?_ ?_; rotate_left
             · rintro w' ⟨s0, s1, s2, s3, s4, s5, s6, s7⟩; go_simp; with_reducible rfl
             rotate_left
             · simp only [Act.put, sIA, sC0, sCS, wJ, wK]; rfl
             refine one_ (i := 10) (N := some 40) #[true, true, true, true, true, true, true, true, true, true, true, false, false, false] rfl rfl (kH HT_.out (by kernel_rfl)) (by decide) (fun K hK => ?_); refine zDC Tryz.func37 (by kernel_rfl) rfl #[.agg #[.int .i64 ((zH l0_1 (ji15)).f0), .int .i64 ((zH l0_1 (ji15)).f1), .int .i64 ((zH l0_1 (ji15)).f2)], .agg #[.int .i64 ((zH l0_1 x19_1).f0), .int .i64 ((zH l0_1 x19_1).f1), .int .i64 ((zH l0_1 x19_1).f2)]] (by rfl) rfl rfl (by (try simp only [List.map_toArray, List.map_cons, List.map_nil]); first | done | (simp only [hji15]; rfl) | rfl | (simp only [List.length_drop, List.length_take]; rfl)) ?_; with_reducible refine (vM.calls k1 ((zH l0_1 (ji15)).f0) ((zH l0_1 (ji15)).f1) ((zH l0_1 (ji15)).f2) ((zH l0_1 x19_1).f0) ((zH l0_1 x19_1).f1) ((zH l0_1 x19_1).f2) t122 _ A18.out).mono ?_
             rintro e w25 ⟨rfl, hb⟩; refine ⟨_, rfl, ?_⟩; have n0_ := zA.mk (zG (bG yJ.out) hb); have n1_ := zA.mk (zG (bG yV.out) hb); have n2_ := zA.mk (zF (eG HB.out) hb); clear yJ; clear yV; clear HB; have yJ := n0_; have yV := n1_; have HB := n2_; clear n0_ n1_ n2_; (try clear hb)
             (try clear hb2)
             (try clear hk)
             (try clear hi)
             refine hK.out _ _ ⟨(zC yJ.out 0).trans rfl, (zC yJ.out 1).trans rfl, (zC yV.out 0).trans rfl, (zC yV.out 1).trans rfl, (zC yV.out 2).trans rfl, ((HB.out.cell (World.block_lt_of_cell? w _ hw121_0)).trans hw121_0), ((HB.out.cell (World.block_lt_of_cell? w _ hw121_1)).trans hw121_1), ((HB.out.cell (World.block_lt_of_cell? w _ hw121_2)).trans hw121_2)⟩ (fun hHeld => ?_); clear hK K; refine uB (a' := ?_) ?_ ?_; rotate_left
             ·
              show Act.put _ (some 40) _ = _
              simp only [Act.put, sIA, sC0, sCS, wJ, wK]; rfl
             refine vD (i := 11) (N := some 41) (v := ?_) (a' := ?_) #[true, true, true, true, true, true, true, true, true, true, true, true, false, false] rfl rfl (wM HT_.out (by kernel_rfl)) (fun _ _ _ h => h) (Or.inl ⟨by rfl, ?_⟩) ?_ ?_; rotate_left
             · intro w'; go_simp; with_reducible rfl
             rotate_left
             · simp only [Act.put, sIA, sC0, sCS, wJ, wK]; rfl
             refine vD (i := 12) (N := some 42) (v := ?_) (a' := ?_) #[true, true, true, true, true, true, true, true, true, true, true, true, true, false] rfl rfl (wM HT_.out (by kernel_rfl)) (fun _ _ _ h => h) (Or.inl ⟨by rfl, ?_⟩) ?_ ?_; rotate_left
             · intro w'; go_simp; with_reducible rfl
             rotate_left
             · simp only [Act.put, sIA, sC0, sCS, wJ, wK]; rfl
             refine vD (i := 13) (N := some 29) (v := ?_) (a' := ?_) #[true, true, true, true, true, true, true, true, true, true, true, true, true, true] rfl rfl (wM HT_.out (by kernel_rfl)) (fun _ _ _ h => h) (Or.inl ⟨by rfl, ?_⟩) ?_ ?_; rotate_left
             · intro w'; go_simp; with_reducible rfl
             rotate_left
             · simp only [Act.put, sIA, sC0, sCS, wJ, wK]; rfl
             refine zFQ (zAL HT_.out (by kernel_rfl)) ?_; try go_wp2
             go_ret2
             exact ⟨by first | rfl | (simp [zN, zM] <;> rfl) | (simp only [← hji15]; first | rfl | (simp [zN, zM] <;> rfl)) | (simp [*, zN, zM] <;> rfl), eG HB.out⟩
            ·
             rw [if_neg c19] at H; have c19b0 : decide (0 ≤ t122) = false := decide_eq_false c19; clear c19; have H' := zA.mk H; clear H; have p118 : 0 ≤ (x19_1 : Int) := of_decide_eq_true (by first | (with_reducible assumption) | assumption); have q118 : x19_1 < (l0_1.length : Int) := of_decide_eq_true (by first | (with_reducible assumption) | assumption); obtain ⟨ad118, e118, zAZ, zAY, zAX⟩ := uM HR0_1.out x19_1 p118 q118; cases e118; replace zAZ := (HB.out.cell (World.block_lt_of_cell? w _ zAZ)).trans zAZ; replace zAY := (HB.out.cell (World.block_lt_of_cell? w _ zAY)).trans zAY; replace zAX := (HB.out.cell (World.block_lt_of_cell? w _ zAX)).trans zAX; replace p118 := eq_true p118; replace q118 := eq_true q118; try go_wp2_with (first | ((with_reducible refine wF (N := 5) rfl ?_); refine wA ?hg (N := 5) ?hd (cs := #[.int .i64 0, .int .i64 0, .int .i64 0]) (t := 26) ?hr ?_; (case hd => rfl); (case hg => rfl); (case hr => first | (go_simp; done) | (go_simp; rfl)); intro kI hg w26 hbox hb; have n0_ := zA.mk (zG (bG yJ.out) hb); have n1_ := zA.mk (zF (eG HB.out) hb); have n2_ := zA.mk (hbox); have n3_ := zA.mk ((by rw [hg]; exact (zE (eG HB.out)) : w.heap.size ≤ kI)); have n4_ := zA.mk ((by rw [hg]; exact (zE (eG HB.out)) : w.heap.size ≤ kI)); have n5_ := zA.mk ((by rw [hg]; exact Nat.ne_of_lt (wC (bG yJ.out)) : zBA ≠ kI)); have n6_ := zA.mk ((by rw [hg]; exact Nat.ne_of_gt (wC (bG yJ.out)) : kI ≠ zBA)); clear yJ; clear HB; have yJ := n0_; have HB := n1_; have yV := n2_; have GW119 := n3_; have zVI := n4_; have zYZ := geI zVI; have jI := n5_; have zDI := n6_; clear n0_ n1_ n2_ n3_ n4_ n5_ n6_; clear hb hbox hg; have hnb27 := zDI.out; have hnc27 := jI.out; have zUK : w26.cell? ⟨kI, 0, none⟩ = some (.int .i64 0) := (zC yV.out 0).trans rfl; have zUJ : w26.cell? ⟨kI, 1, none⟩ = some (.int .i64 0) := (zC yV.out 1).trans rfl; have zUI : w26.cell? ⟨kI, 2, none⟩ = some (.int .i64 0) := (zC yV.out 2).trans rfl; have zTI := zB yV.out 0; have zTH := zB yV.out 1; have zTG := zB yV.out 2) | ((with_reducible refine zQ (f := 36) rfl ?_); refine vB (some 26) rfl rfl Tryz.func36 (by kernel_rfl) rfl #[.agg #[.int .i64 ((zH l0_1 x19_1).f0), .int .i64 ((zH l0_1 x19_1).f1), .int .i64 ((zH l0_1 x19_1).f2)]] rfl (by (try simp only [List.map_toArray, List.map_cons, List.map_nil]); first | done | rfl | (simp only [List.length_drop, List.length_take]; rfl)) ?_; (with_reducible refine (qP.calls ((zH l0_1 x19_1).f0) ((zH l0_1 x19_1).f1) ((zH l0_1 x19_1).f2) true _ A12.out).mono ?_); rintro e w29 ⟨rfl, hb⟩; refine ⟨_, rfl, ?_⟩; have n0_ := zA.mk (zG (g := zBA) (o := .cells #[.int .i64 a0_0, .slice (some ad118) l0_1.length c0_1] 24 (0, 0)) (by (with_reducible repeat first | apply bN | apply bD | apply bA); refine zV ?_ jI.out _; (with_reducible repeat first | apply bN | apply bD | apply bA); refine zV ?_ jI.out _; (with_reducible repeat first | apply bN | apply bD | apply bA); refine zV ?_ jI.out _; (with_reducible repeat first | apply bN | apply bD | apply bA); exact yJ.out) hb); have n1_ := zA.mk (zG (g := kI) (o := .cells #[.int .i64 ((zH l0_1 x19_1).f0), .int .i64 ((zH l0_1 x19_1).f1), .int .i64 ((zH l0_1 x19_1).f2)] 26 (0, 0)) (by (with_reducible repeat first | apply bN | apply bD | apply bA); refine wE (cs := #[.int .i64 ((zH l0_1 x19_1).f0), .int .i64 ((zH l0_1 x19_1).f1), .int .i64 0]) ?_ 2 _ rfl; (with_reducible repeat first | apply bN | apply bD | apply bA); refine wE (cs := #[.int .i64 ((zH l0_1 x19_1).f0), .int .i64 0, .int .i64 0]) ?_ 1 _ rfl; (with_reducible repeat first | apply bN | apply bD | apply bA); refine wE (cs := #[.int .i64 0, .int .i64 0, .int .i64 0]) ?_ 0 _ rfl; (with_reducible repeat first | apply bN | apply bD | apply bA); exact yV.out) hb); have n2_ := zA.mk (zF (eG HB.out) hb); clear yJ; clear yV; clear HB; have yJ := n0_; have yV := n1_; have HB := n2_; clear n0_ n1_ n2_; (try clear hb); (try clear hb2); (try clear hk); (try clear hi)))
             have n0_ := zA.mk (yX yJ.out); have n1_ := zA.mk (yX yV.out); have n2_ := zA.mk (yB HB.out); clear yJ; clear yV; clear HB; have yJ := n0_; have yV := n1_; have HB := n2_; clear n0_ n1_ n2_; have p121 : 0 ≤ ((ji15) : Int) := of_decide_eq_true (by first | (with_reducible assumption) | assumption); have q121 : (ji15) < (l0_1.length : Int) := of_decide_eq_true (by first | (with_reducible assumption) | assumption); obtain ⟨ad121, e121, zDB, zDA, zCZ⟩ := uM HR0_1.out (ji15) p121 q121; have hw121_2 := zCZ; have hw121_1 := zDA; have hw121_0 := zDB; obtain rfl : ad118 = ad121 := (by injection e121); replace zDB := (HB.out.cell (World.block_lt_of_cell? w _ zDB)).trans zDB; replace zDA := (HB.out.cell (World.block_lt_of_cell? w _ zDA)).trans zDA; replace zCZ := (HB.out.cell (World.block_lt_of_cell? w _ zCZ)).trans zCZ; replace p121 := eq_true p121; replace q121 := eq_true q121; refine zBS (n := 14) (S := fun w' => w'.cell? ⟨zBA, 0, none⟩ = some (.int .i64 a0_0) ∧ w'.cell? ⟨zBA, 1, none⟩ = some (.slice (some ad118) l0_1.length c0_1) ∧ w'.cell? ⟨kI, 0, none⟩ = some (.int .i64 ((zH l0_1 x19_1).f0)) ∧ w'.cell? ⟨kI, 1, none⟩ = some (.int .i64 ((zH l0_1 x19_1).f1)) ∧ w'.cell? ⟨kI, 2, none⟩ = some (.int .i64 ((zH l0_1 x19_1).f2)) ∧ w'.cell? (ad118.add (((ji15)).toNat * 3)) = some (.int .i64 ((zH l0_1 (ji15)).f0)) ∧ w'.cell? ⟨(ad118.add (((ji15)).toNat * 3)).block, (ad118.add (((ji15)).toNat * 3)).off + 1, none⟩ = some (.int .i64 ((zH l0_1 (ji15)).f1)) ∧ w'.cell? ⟨(ad118.add (((ji15)).toNat * 3)).block, (ad118.add (((ji15)).toNat * 3)).off + 2, none⟩ = some (.int .i64 ((zH l0_1 (ji15)).f2))) (ds := []) #[false, false, false, false, false, false, false, false, false, false, false, false, false, false] (by kernel_rfl) rfl rfl ⟨(zC yJ.out 0).trans rfl, (zC yJ.out 1).trans rfl, (zC yV.out 0).trans rfl, (zC yV.out 1).trans rfl, (zC yV.out 2).trans rfl, ((HB.out.cell (World.block_lt_of_cell? w _ hw121_0)).trans hw121_0), ((HB.out.cell (World.block_lt_of_cell? w _ hw121_1)).trans hw121_1), ((HB.out.cell (World.block_lt_of_cell? w _ hw121_2)).trans hw121_2)⟩ (fun hHeld => ?_); refine uF wU.zRL wU.zLP (fun HT_ HW_ => ?_)
             generalize w29.drew = w30 at yJ yV HB zDB zDA zCZ hHeld ⊢; refine vD (i := 0) (N := some 30) (v := ?_) (a' := ?_) #[true, false, false, false, false, false, false, false, false, false, false, false, false, false] rfl rfl (wM HT_.out (by kernel_rfl)) (fun _ _ _ h => h) (Or.inl ⟨by rfl, ?_⟩) ?_ ?_; rotate_left
             · intro w'; go_simp; with_reducible rfl
             rotate_left
             · simp only [Act.put, sIA, sC0, sCS, wJ, wK]; rfl
             refine vD (i := 1) (N := some 31) (v := ?_) (a' := ?_) #[true, true, false, false, false, false, false, false, false, false, false, false, false, false] rfl rfl (wM HT_.out (by kernel_rfl)) (fun _ _ _ h => h) (Or.inl ⟨by rfl, ?_⟩) ?_ ?_; rotate_left
             · intro w'; go_simp; with_reducible rfl
             rotate_left
             · simp only [Act.put, sIA, sC0, sCS, wJ, wK]; rfl
             refine vD (i := 2) (N := some 32) (v := ?_) (a' := ?_) #[true, true, true, false, false, false, false, false, false, false, false, false, false, false] rfl rfl (wM HT_.out (by kernel_rfl)) (fun _ _ _ h => h) (Or.inl ⟨by rfl, ?_⟩) ?_ ?_; rotate_left
             · intro w'; go_simp; with_reducible rfl
             rotate_left
             · simp only [Act.put, sIA, sC0, sCS, wJ, wK]; rfl
             refine vD (i := 3) (N := some 33) (v := ?_) (a' := ?_) #[true, true, true, true, false, false, false, false, false, false, false, false, false, false] rfl rfl (wM HT_.out (by kernel_rfl)) (fun _ _ _ h => h) (Or.inl ⟨by rfl, ?_⟩) ?_ ?_; rotate_left
             · intro w'; go_simp; with_reducible rfl
             rotate_left
             · simp only [Act.put, sIA, sC0, sCS, wJ, wK]; rfl
             refine vD (i := 5) (N := some 35) (v := ?_) (a' := ?_) #[true, true, true, true, false, true, false, false, false, false, false, false, false, false] rfl rfl (wM HT_.out (by kernel_rfl)) (fun _ _ _ h => h) (Or.inl ⟨by rfl, ?_⟩) ?_ ?_; rotate_left
             · intro w'; go_simp; with_reducible rfl
             rotate_left
             · simp only [Act.put, sIA, sC0, sCS, wJ, wK]; rfl
             refine vD (i := 6) (N := some 36) (v := ?_) (a' := ?_) #[true, true, true, true, false, true, true, false, false, false, false, false, false, false] rfl rfl (wM HT_.out (by kernel_rfl)) (fun _ _ _ h => h) (Or.inl ⟨by rfl, ?_⟩) ?_ ?_; rotate_left
             · intro w'; go_simp; with_reducible rfl
             rotate_left
             · simp only [Act.put, sIA, sC0, sCS, wJ, wK]; rfl
             refine kL (i := 4) (N := some 34) (v := ?_) (a' := ?_) #[true, true, true, true, true, true, true, false, false, false, false, false, false, false] rfl rfl (qY HT_.out HW_.out (by kernel_rfl)) (fun _ _ _ h => h) (Or.inl ⟨by rfl, ?_⟩) hHeld ?_ ?_; rotate_left
             · rintro w' ⟨s0, s1, s2, s3, s4, s5, s6, s7⟩; go_simp; with_reducible rfl
             rotate_left
             · simp only [Act.put, sIA, sC0, sCS, wJ, wK]; rfl
             refine vD (i := 7) (N := some 37) (v := ?_) (a' := ?_) #[true, true, true, true, true, true, true, true, false, false, false, false, false, false] rfl rfl (wM HT_.out (by kernel_rfl)) (fun _ _ _ h => h) (Or.inl ⟨by rfl, ?_⟩) ?_ ?_; rotate_left
             · intro w'; go_simp; with_reducible rfl
             rotate_left
             · simp only [Act.put, sIA, sC0, sCS, wJ, wK]; rfl
             refine kL (i := 8) (N := some 38) (v := ?_) (a' := ?_) #[true, true, true, true, true, true, true, true, true, false, false, false, false, false] rfl rfl (qY HT_.out HW_.out (by kernel_rfl)) (fun _ _ _ h => h) (Or.inl ⟨by rfl, ?_⟩) hHeld ?_ ?_; rotate_left
             · rintro w' ⟨s0, s1, s2, s3, s4, s5, s6, s7⟩; go_simp; with_reducible rfl
             rotate_left
             · simp only [Act.put, sIA, sC0, sCS, wJ, wK]; rfl
             refine kL (i := 9) (N := some 39) (v := ?_) (a' := ?_) #[true, true, true, true, true, true, true, true, true, true, false, false, false, false] rfl rfl (qY HT_.out HW_.out (by kernel_rfl)) (fun _ _ _ h => h) (Or.inl ⟨by rfl, ?_⟩) hHeld ?_ ?_; rotate_left
             · rintro w' ⟨s0, s1, s2, s3, s4, s5, s6, s7⟩; go_simp; with_reducible rfl
             rotate_left
             · simp only [Act.put, sIA, sC0, sCS, wJ, wK]; rfl
             refine one_ (i := 10) (N := some 40) #[true, true, true, true, true, true, true, true, true, true, true, false, false, false] rfl rfl (kH HT_.out (by kernel_rfl)) (by decide) (fun K hK => ?_); refine zDC Tryz.func37 (by kernel_rfl) rfl #[.agg #[.int .i64 ((zH l0_1 (ji15)).f0), .int .i64 ((zH l0_1 (ji15)).f1), .int .i64 ((zH l0_1 (ji15)).f2)], .agg #[.int .i64 ((zH l0_1 x19_1).f0), .int .i64 ((zH l0_1 x19_1).f1), .int .i64 ((zH l0_1 x19_1).f2)]] (by rfl) rfl rfl (by (try simp only [List.map_toArray, List.map_cons, List.map_nil]); first | done | (simp only [hji15]; rfl) | rfl | (simp only [List.length_drop, List.length_take]; rfl)) ?_; with_reducible refine (vM.calls k1 ((zH l0_1 (ji15)).f0) ((zH l0_1 (ji15)).f1) ((zH l0_1 (ji15)).f2) ((zH l0_1 x19_1).f0) ((zH l0_1 x19_1).f1) ((zH l0_1 x19_1).f2) t122 _ A18.out).mono ?_
             rintro e w31 ⟨rfl, hb⟩; refine ⟨_, rfl, ?_⟩; have n0_ := zA.mk (zG (bG yJ.out) hb); have n1_ := zA.mk (zG (bG yV.out) hb); have n2_ := zA.mk (zF (eG HB.out) hb); clear yJ; clear yV; clear HB; have yJ := n0_; have yV := n1_; have HB := n2_; clear n0_ n1_ n2_; (try clear hb)
             (try clear hb2)
             (try clear hk)
             (try clear hi)
             refine hK.out _ _ ⟨(zC yJ.out 0).trans rfl, (zC yJ.out 1).trans rfl, (zC yV.out 0).trans rfl, (zC yV.out 1).trans rfl, (zC yV.out 2).trans rfl, ((HB.out.cell (World.block_lt_of_cell? w _ hw121_0)).trans hw121_0), ((HB.out.cell (World.block_lt_of_cell? w _ hw121_1)).trans hw121_1), ((HB.out.cell (World.block_lt_of_cell? w _ hw121_2)).trans hw121_2)⟩ (fun hHeld => ?_); clear hK K; refine uB (a' := ?_) ?_ ?_; rotate_left
             ·
              show Act.put _ (some 40) _ = _
              simp only [Act.put, sIA, sC0, sCS, wJ, wK]; rfl
             refine vD (i := 11) (N := some 41) (v := ?_) (a' := ?_) #[true, true, true, true, true, true, true, true, true, true, true, true, false, false] rfl rfl (wM HT_.out (by kernel_rfl)) (fun _ _ _ h => h) (Or.inl ⟨by rfl, ?_⟩) ?_ ?_; rotate_left
             · intro w'; go_simp; with_reducible rfl
             rotate_left
             · simp only [Act.put, sIA, sC0, sCS, wJ, wK]; rfl
             refine vD (i := 12) (N := some 42) (v := ?_) (a' := ?_) #[true, true, true, true, true, true, true, true, true, true, true, true, true, false] rfl rfl (wM HT_.out (by kernel_rfl)) (fun _ _ _ h => h) (Or.inl ⟨by rfl, ?_⟩) ?_ ?_; rotate_left
             · intro w'; go_simp; with_reducible rfl
             rotate_left
             · simp only [Act.put, sIA, sC0, sCS, wJ, wK]; rfl
             refine vD (i := 13) (N := some 29) (v := ?_) (a' := ?_) #[true, true, true, true, true, true, true, true, true, true, true, true, true, true] rfl rfl (wM HT_.out (by kernel_rfl)) (fun _ _ _ h => h) (Or.inl ⟨by rfl, ?_⟩) ?_ ?_; rotate_left
             · intro w'; go_simp; with_reducible rfl
             rotate_left
             · simp only [Act.put, sIA, sC0, sCS, wJ, wK]; rfl
             refine zFQ (zAL HT_.out (by kernel_rfl)) ?_; try go_wp2
             go_roundg k1
             case measure => have := HK1.out; omega
             case rel => exact ⟨(wrap64 (x19_1 + 1)), (by first | rfl | (simp; done) | (simp [*]; done)), H', ⟨by have := HK1.out; omega⟩, ⟨by (with_reducible repeat first | apply bN | apply bD | apply bA); exact yJ.out⟩, ⟨eG HB.out⟩⟩
           · rw [if_neg c17] at H; exact absurd H (by simp)
          · rw [if_neg c16] at H; exact absurd H (by simp)
         ·
          rw [if_neg c14] at H; have c14b0 : decide (0 < x19_1) = false := decide_eq_false c14; clear c14; have H' := zA.mk H; clear H; have p118 : 0 ≤ (x19_1 : Int) := of_decide_eq_true (by first | (with_reducible assumption) | assumption); have q118 : x19_1 < (l0_1.length : Int) := of_decide_eq_true (by first | (with_reducible assumption) | assumption); obtain ⟨ad118, e118, zAZ, zAY, zAX⟩ := uM HR0_1.out x19_1 p118 q118; cases e118; replace zAZ := (HB.out.cell (World.block_lt_of_cell? w _ zAZ)).trans zAZ; replace zAY := (HB.out.cell (World.block_lt_of_cell? w _ zAY)).trans zAY; replace zAX := (HB.out.cell (World.block_lt_of_cell? w _ zAX)).trans zAX; replace p118 := eq_true p118; replace q118 := eq_true q118; try go_wp2_with (first | ((with_reducible refine wF (N := 5) rfl ?_); refine wA ?hg (N := 5) ?hd (cs := #[.int .i64 0, .int .i64 0, .int .i64 0]) (t := 26) ?hr ?_; (case hd => rfl); (case hg => rfl); (case hr => first | (go_simp; done) | (go_simp; rfl)); intro kI hg w32 hbox hb; have n0_ := zA.mk (zG (bG yJ.out) hb); have n1_ := zA.mk (zF (eG HB.out) hb); have n2_ := zA.mk (hbox); have n3_ := zA.mk ((by rw [hg]; exact (zE (eG HB.out)) : w.heap.size ≤ kI)); have n4_ := zA.mk ((by rw [hg]; exact (zE (eG HB.out)) : w.heap.size ≤ kI)); have n5_ := zA.mk ((by rw [hg]; exact Nat.ne_of_lt (wC (bG yJ.out)) : zBA ≠ kI)); have n6_ := zA.mk ((by rw [hg]; exact Nat.ne_of_gt (wC (bG yJ.out)) : kI ≠ zBA)); clear yJ; clear HB; have yJ := n0_; have HB := n1_; have yV := n2_; have GW119 := n3_; have zVI := n4_; have zYZ := geI zVI; have jI := n5_; have zDI := n6_; clear n0_ n1_ n2_ n3_ n4_ n5_ n6_; clear hb hbox hg; have hnb33 := zDI.out; have hnc33 := jI.out; have zPI : w32.cell? ⟨kI, 0, none⟩ = some (.int .i64 0) := (zC yV.out 0).trans rfl; have zPH : w32.cell? ⟨kI, 1, none⟩ = some (.int .i64 0) := (zC yV.out 1).trans rfl; have hcz34_2 : w32.cell? ⟨kI, 2, none⟩ = some (.int .i64 0) := (zC yV.out 2).trans rfl; have zOR := zB yV.out 0; have zOQ := zB yV.out 1; have hfz34_2 := zB yV.out 2) | ((with_reducible refine zQ (f := 36) rfl ?_); refine vB (some 26) rfl rfl Tryz.func36 (by kernel_rfl) rfl #[.agg #[.int .i64 ((zH l0_1 x19_1).f0), .int .i64 ((zH l0_1 x19_1).f1), .int .i64 ((zH l0_1 x19_1).f2)]] rfl (by (try simp only [List.map_toArray, List.map_cons, List.map_nil]); first | done | rfl | (simp only [List.length_drop, List.length_take]; rfl)) ?_; (with_reducible refine (qP.calls ((zH l0_1 x19_1).f0) ((zH l0_1 x19_1).f1) ((zH l0_1 x19_1).f2) true _ A12.out).mono ?_); rintro e w35 ⟨rfl, hb⟩; refine ⟨_, rfl, ?_⟩; have n0_ := zA.mk (zG (g := zBA) (o := .cells #[.int .i64 a0_0, .slice (some ad118) l0_1.length c0_1] 24 (0, 0)) (by (with_reducible repeat first | apply bN | apply bD | apply bA); refine zV ?_ jI.out _; (with_reducible repeat first | apply bN | apply bD | apply bA); refine zV ?_ jI.out _; (with_reducible repeat first | apply bN | apply bD | apply bA); refine zV ?_ jI.out _; (with_reducible repeat first | apply bN | apply bD | apply bA); exact yJ.out) hb); have n1_ := zA.mk (zG (g := kI) (o := .cells #[.int .i64 ((zH l0_1 x19_1).f0), .int .i64 ((zH l0_1 x19_1).f1), .int .i64 ((zH l0_1 x19_1).f2)] 26 (0, 0)) (by (with_reducible repeat first | apply bN | apply bD | apply bA); refine wE (cs := #[.int .i64 ((zH l0_1 x19_1).f0), .int .i64 ((zH l0_1 x19_1).f1), .int .i64 0]) ?_ 2 _ rfl; (with_reducible repeat first | apply bN | apply bD | apply bA); refine wE (cs := #[.int .i64 ((zH l0_1 x19_1).f0), .int .i64 0, .int .i64 0]) ?_ 1 _ rfl; (with_reducible repeat first | apply bN | apply bD | apply bA); refine wE (cs := #[.int .i64 0, .int .i64 0, .int .i64 0]) ?_ 0 _ rfl; (with_reducible repeat first | apply bN | apply bD | apply bA); exact yV.out) hb); have n2_ := zA.mk (zF (eG HB.out) hb); clear yJ; clear yV; clear HB; have yJ := n0_; have yV := n1_; have HB := n2_; clear n0_ n1_ n2_; (try clear hb); (try clear hb2); (try clear hk); (try clear hi)))
          have n0_ := zA.mk (yX yJ.out); have n1_ := zA.mk (yX yV.out); have n2_ := zA.mk (yB HB.out); clear yJ; clear yV; clear HB; have yJ := n0_; have yV := n1_; have HB := n2_; clear n0_ n1_ n2_; refine zBS (n := 14) (S := fun w' => True) (ds := []) #[false, false, false, false, false, false, false, false, false, false, false, false, false, false] (by kernel_rfl) rfl rfl trivial (fun hHeld => ?_); refine uF wU.zRL wU.zLP (fun HT_ HW_ => ?_)
          generalize w35.drew = w36 at yJ yV HB hHeld ⊢; refine vD (i := 0) (N := some 30) (v := ?_) (a' := ?_) #[true, false, false, false, false, false, false, false, false, false, false, false, false, false] rfl rfl (wM HT_.out (by kernel_rfl)) (fun _ _ _ h => h) (Or.inl ⟨by rfl, ?_⟩) ?_ ?_; rotate_left
          · intro w'; go_simp; with_reducible rfl
          rotate_left
          · simp only [Act.put, sIA, sC0, sCS, wJ, wK]; rfl
          refine vD (i := 1) (N := some 31) (v := ?_) (a' := ?_) #[true, true, false, false, false, false, false, false, false, false, false, false, false, false] rfl rfl (wM HT_.out (by kernel_rfl)) (fun _ _ _ h => h) (Or.inl ⟨by rfl, ?_⟩) ?_ ?_; rotate_left
          · intro w'; go_simp; with_reducible rfl
          rotate_left
          · simp only [Act.put, sIA, sC0, sCS, wJ, wK]; rfl
          refine vD (i := 2) (N := some 32) (v := ?_) (a' := ?_) #[true, true, true, false, false, false, false, false, false, false, false, false, false, false] rfl rfl (wM HT_.out (by kernel_rfl)) (fun _ _ _ h => h) (Or.inl ⟨by rfl, ?_⟩) ?_ ?_; rotate_left
          · intro w'; go_simp; with_reducible rfl
          rotate_left
          · simp only [Act.put, sIA, sC0, sCS, wJ, wK]; rfl
          refine vD (i := 3) (N := some 33) (v := undef) (a' := ?_) #[true, true, true, true, false, false, false, false, false, false, false, false, false, false] rfl rfl (wM HT_.out (by kernel_rfl)) (fun _ _ _ h => h) (Or.inr ⟨by rfl, rfl⟩) ?_ ?_; rotate_left
          · simp only [Act.put, sIA, sC0, sCS, wJ, wK]; rfl
          refine vD (i := 4) (N := some 34) (v := undef) (a' := ?_) #[true, true, true, true, true, false, false, false, false, false, false, false, false, false] rfl rfl (wM HT_.out (by kernel_rfl)) (fun _ _ _ h => h) (Or.inr ⟨by rfl, rfl⟩) ?_ ?_; rotate_left
          · simp only [Act.put, sIA, sC0, sCS, wJ, wK]; rfl
          refine vD (i := 5) (N := some 35) (v := undef) (a' := ?_) #[true, true, true, true, true, true, false, false, false, false, false, false, false, false] rfl rfl (wM HT_.out (by kernel_rfl)) (fun _ _ _ h => h) (Or.inr ⟨by rfl, rfl⟩) ?_ ?_; rotate_left
          · simp only [Act.put, sIA, sC0, sCS, wJ, wK]; rfl
          refine vD (i := 6) (N := some 36) (v := undef) (a' := ?_) #[true, true, true, true, true, true, true, false, false, false, false, false, false, false] rfl rfl (wM HT_.out (by kernel_rfl)) (fun _ _ _ h => h) (Or.inr ⟨by rfl, rfl⟩) ?_ ?_; rotate_left
          · simp only [Act.put, sIA, sC0, sCS, wJ, wK]; rfl
          refine vD (i := 7) (N := some 37) (v := undef) (a' := ?_) #[true, true, true, true, true, true, true, true, false, false, false, false, false, false] rfl rfl (wM HT_.out (by kernel_rfl)) (fun _ _ _ h => h) (Or.inr ⟨by rfl, rfl⟩) ?_ ?_; rotate_left
          · simp only [Act.put, sIA, sC0, sCS, wJ, wK]; rfl
          refine vD (i := 8) (N := some 38) (v := undef) (a' := ?_) #[true, true, true, true, true, true, true, true, true, false, false, false, false, false] rfl rfl (wM HT_.out (by kernel_rfl)) (fun _ _ _ h => h) (Or.inr ⟨by rfl, rfl⟩) ?_ ?_; rotate_left
          · simp only [Act.put, sIA, sC0, sCS, wJ, wK]; rfl
          refine vD (i := 9) (N := some 39) (v := undef) (a' := ?_) #[true, true, true, true, true, true, true, true, true, true, false, false, false, false] rfl rfl (wM HT_.out (by kernel_rfl)) (fun _ _ _ h => h) (Or.inr ⟨by rfl, rfl⟩) ?_ ?_; rotate_left
          · simp only [Act.put, sIA, sC0, sCS, wJ, wK]; rfl
          refine vD (i := 10) (N := some 40) (v := undef) (a' := ?_) #[true, true, true, true, true, true, true, true, true, true, true, false, false, false] rfl rfl (wM HT_.out (by kernel_rfl)) (fun _ _ _ h => h) (Or.inr ⟨by rfl, rfl⟩) ?_ ?_; rotate_left
          · simp only [Act.put, sIA, sC0, sCS, wJ, wK]; rfl
          refine vD (i := 11) (N := some 41) (v := undef) (a' := ?_) #[true, true, true, true, true, true, true, true, true, true, true, true, false, false] rfl rfl (wM HT_.out (by kernel_rfl)) (fun _ _ _ h => h) (Or.inr ⟨by rfl, rfl⟩) ?_ ?_; rotate_left
          · simp only [Act.put, sIA, sC0, sCS, wJ, wK]; rfl
          refine vD (i := 12) (N := some 42) (v := ?_) (a' := ?_) #[true, true, true, true, true, true, true, true, true, true, true, true, true, false] rfl rfl (wM HT_.out (by kernel_rfl)) (fun _ _ _ h => h) (Or.inl ⟨by rfl, ?_⟩) ?_ ?_; rotate_left
          · intro w'; go_simp; with_reducible rfl
          rotate_left
          · simp only [Act.put, sIA, sC0, sCS, wJ, wK]; rfl
          refine vD (i := 13) (N := some 29) (v := ?_) (a' := ?_) #[true, true, true, true, true, true, true, true, true, true, true, true, true, true] rfl rfl (wM HT_.out (by kernel_rfl)) (fun _ _ _ h => h) (Or.inl ⟨by rfl, ?_⟩) ?_ ?_; rotate_left
          · intro w'; go_simp; with_reducible rfl
          rotate_left
          · simp only [Act.put, sIA, sC0, sCS, wJ, wK]; rfl
          refine zFQ (zAL HT_.out (by kernel_rfl)) ?_; try go_wp2
          go_roundg k1
          case measure => have := HK1.out; omega
          case rel => exact ⟨(wrap64 (x19_1 + 1)), (by first | rfl | (simp; done) | (simp [*]; done)), H', ⟨by have := HK1.out; omega⟩, ⟨by (with_reducible repeat first | apply bN | apply bD | apply bA); exact yJ.out⟩, ⟨eG HB.out⟩⟩
        ·
         replace c13 := Bool.eq_false_iff.mpr c13; subst c13; replace H : (some (x19_1, 2)) = some (r1, r2) := by rw [if_neg (show ¬ (false = true) by decide)] at H; exact H
         simp only [Option.some.injEq, Prod.mk.injEq] at H; obtain ⟨rfl, rfl⟩ := H; have p118 : 0 ≤ (x19_1 : Int) := of_decide_eq_true (by first | (with_reducible assumption) | assumption); have q118 : x19_1 < (l0_1.length : Int) := of_decide_eq_true (by first | (with_reducible assumption) | assumption); obtain ⟨ad118, e118, zAZ, zAY, zAX⟩ := uM HR0_1.out x19_1 p118 q118; cases e118; replace zAZ := (HB.out.cell (World.block_lt_of_cell? w _ zAZ)).trans zAZ; replace zAY := (HB.out.cell (World.block_lt_of_cell? w _ zAY)).trans zAY; replace zAX := (HB.out.cell (World.block_lt_of_cell? w _ zAX)).trans zAX; replace p118 := eq_true p118; replace q118 := eq_true q118; go_wp2_with (first | ((with_reducible refine wF (N := 5) rfl ?_); refine wA ?hg (N := 5) ?hd (cs := #[.int .i64 0, .int .i64 0, .int .i64 0]) (t := 26) ?hr ?_; (case hd => rfl); (case hg => rfl); (case hr => first | (go_simp; done) | (go_simp; rfl)); intro kI hg w37 hbox hb; have n0_ := zA.mk (zG (bG yJ.out) hb); have n1_ := zA.mk (zF (eG HB.out) hb); have n2_ := zA.mk (hbox); have n3_ := zA.mk ((by rw [hg]; exact (zE (eG HB.out)) : w.heap.size ≤ kI)); have n4_ := zA.mk ((by rw [hg]; exact (zE (eG HB.out)) : w.heap.size ≤ kI)); have n5_ := zA.mk ((by rw [hg]; exact Nat.ne_of_lt (wC (bG yJ.out)) : zBA ≠ kI)); have n6_ := zA.mk ((by rw [hg]; exact Nat.ne_of_gt (wC (bG yJ.out)) : kI ≠ zBA)); clear yJ; clear HB; have yJ := n0_; have HB := n1_; have yV := n2_; have GW119 := n3_; have zVI := n4_; have zYZ := geI zVI; have jI := n5_; have zDI := n6_; clear n0_ n1_ n2_ n3_ n4_ n5_ n6_; clear hb hbox hg; have hnb38 := zDI.out; have hnc38 := jI.out; have zUE : w37.cell? ⟨kI, 0, none⟩ = some (.int .i64 0) := (zC yV.out 0).trans rfl; have zUD : w37.cell? ⟨kI, 1, none⟩ = some (.int .i64 0) := (zC yV.out 1).trans rfl; have zZY : w37.cell? ⟨kI, 2, none⟩ = some (.int .i64 0) := (zC yV.out 2).trans rfl; have zTC := zB yV.out 0; have zTB := zB yV.out 1; have zZE := zB yV.out 2) | ((with_reducible refine zQ (f := 36) rfl ?_); refine vB (some 26) rfl rfl Tryz.func36 (by kernel_rfl) rfl #[.agg #[.int .i64 ((zH l0_1 x19_1).f0), .int .i64 ((zH l0_1 x19_1).f1), .int .i64 ((zH l0_1 x19_1).f2)]] rfl (by (try simp only [List.map_toArray, List.map_cons, List.map_nil]); first | done | rfl | (simp only [List.length_drop, List.length_take]; rfl)) ?_; (with_reducible refine (qP.calls ((zH l0_1 x19_1).f0) ((zH l0_1 x19_1).f1) ((zH l0_1 x19_1).f2) false _ A12.out).mono ?_); rintro e w40 ⟨rfl, hb⟩; refine ⟨_, rfl, ?_⟩; have n0_ := zA.mk (zG (g := zBA) (o := .cells #[.int .i64 a0_0, .slice (some ad118) l0_1.length c0_1] 24 (0, 0)) (by (with_reducible repeat first | apply bN | apply bD | apply bA); refine zV ?_ jI.out _; (with_reducible repeat first | apply bN | apply bD | apply bA); refine zV ?_ jI.out _; (with_reducible repeat first | apply bN | apply bD | apply bA); refine zV ?_ jI.out _; (with_reducible repeat first | apply bN | apply bD | apply bA); exact yJ.out) hb); have n1_ := zA.mk (zG (g := kI) (o := .cells #[.int .i64 ((zH l0_1 x19_1).f0), .int .i64 ((zH l0_1 x19_1).f1), .int .i64 ((zH l0_1 x19_1).f2)] 26 (0, 0)) (by (with_reducible repeat first | apply bN | apply bD | apply bA); refine wE (cs := #[.int .i64 ((zH l0_1 x19_1).f0), .int .i64 ((zH l0_1 x19_1).f1), .int .i64 0]) ?_ 2 _ rfl; (with_reducible repeat first | apply bN | apply bD | apply bA); refine wE (cs := #[.int .i64 ((zH l0_1 x19_1).f0), .int .i64 0, .int .i64 0]) ?_ 1 _ rfl; (with_reducible repeat first | apply bN | apply bD | apply bA); refine wE (cs := #[.int .i64 0, .int .i64 0, .int .i64 0]) ?_ 0 _ rfl; (with_reducible repeat first | apply bN | apply bD | apply bA); exact yV.out) hb); have n2_ := zA.mk (zF (eG HB.out) hb); clear yJ; clear yV; clear HB; have yJ := n0_; have yV := n1_; have HB := n2_; clear n0_ n1_ n2_; (try clear hb); (try clear hb2); (try clear hk); (try clear hi)))
         go_ret2
         exact ⟨by first | rfl | (simp [zN, zM] <;> rfl) | (simp [*, zN, zM] <;> rfl), eG HB.out⟩
       · rw [if_neg c11] at H; exact absurd H (by simp)
      · rw [if_neg c10] at H; exact absurd H (by simp)
     ·
      rw [if_neg c9] at H; have c9b0 : decide (x19_1 < (l0_1.length : Int)) = false := decide_eq_false c9; clear c9; simp only [Option.some.injEq, Prod.mk.injEq] at H; obtain ⟨rfl, rfl⟩ := H; go_wp2; go_ret2
      exact ⟨by first | rfl | (simp [zN, zM] <;> rfl) | (simp [*, zN, zM] <;> rfl), eG HB.out⟩
 ·
  replace c3 := Bool.eq_false_iff.mpr c3; subst c3; replace H : (some ((-1), 2)) = some (r1, r2) := by rw [if_neg (show ¬ (false = true) by decide)] at H; exact H
  simp only [Option.some.injEq, Prod.mk.injEq] at H; obtain ⟨rfl, rfl⟩ := H; go_enter Tryz.func13, Tryz.ntmps13
  go_wp2_with (first | ((with_reducible refine wF (N := 1) rfl ?_); refine wA ?hg (N := 1) ?hd (cs := #[.int .i64 a0_0, .slice A0_1 l0_1.length c0_1]) (t := 24) ?hr ?_; (case hd => rfl); (case hg => rfl); (case hr => first | (go_simp; done) | (go_simp; rfl)); intro zBA hg w41 hbox hb; have n0_ := zA.mk (zF (eG HB.out) hb); have n1_ := zA.mk (hbox); have n2_ := zA.mk ((by rw [hg]; exact (zE (eG HB.out)) : w.heap.size ≤ zBA)); have n3_ := zA.mk ((by rw [hg]; exact (zE (eG HB.out)) : w.heap.size ≤ zBA)); clear HB; have HB := n0_; have yJ := n1_; have GW116 := n2_; have wBX := n3_; have ig116_ := geI wBX; clear n0_ n1_ n2_ n3_; clear hb hbox hg; have zZX : w41.cell? ⟨zBA, 0, none⟩ = some (.int .i64 a0_0) := (zC yJ.out 0).trans rfl; have zZW : w41.cell? ⟨zBA, 1, none⟩ = some (.slice A0_1 l0_1.length c0_1) := (zC yJ.out 1).trans rfl; have zZD := zB yJ.out 0; have zZC := zB yJ.out 1) | ((with_reducible refine zQ (f := 35) rfl ?_); refine vB (some 9) rfl rfl Tryz.func35 (by kernel_rfl) rfl #[.int .i64 a0_0, .int .i64 1, .int .i64 4] rfl (by (try simp only [List.map_toArray, List.map_cons, List.map_nil]); first | done | rfl | (simp only [List.length_drop, List.length_take]; rfl)) ?_; (with_reducible refine (zR.calls a0_0 1 4 false _ A2.out).mono ?_); rintro e w' ⟨rfl, ⟨nd, rfl⟩⟩; refine ⟨_, rfl, ?_⟩))
  go_ret2
  exact ⟨by first | rfl | (simp [zN, zM] <;> rfl) | (simp [*, zN, zM] <;> rfl), eG HB.out⟩
def qC.f (l0 : List (S26)) : Option (List (S26)) := if l0.length < 1099511627776 then some l0 else none
set_option maxHeartbeats 8000000 in
set_option maxRecDepth 100000 in
theorem qC.calls (A0 : Option Addr) (c0 : Nat) (l0 : List (S26)) (r : List (S26)) (w : World) (hr0 : Kd.C k26 w A0 l0.length l0) (hc0 : l0.length ≤ c0) (h : qC.f l0 = some r) :
  Calls Tryz.prog 38 #[.slice A0 l0.length c0] w fun e w' => ∃ v0_ : Value, e = .returned (v0_) ∧ Kd.R k26 26 w' w.heap.size (fun _ => True) v0_ r ∧ Below w.heap.size w w' := by
 unfold qC.f at h; by_cases c2 : l0.length < 1099511627776
 case neg => rw [if_neg c2] at h; cases h
 rw [if_pos c2] at h; obtain rfl := Option.some.inj h; have LM := zA.mk c2; have HR0 := zA.mk hr0; have HC0 := zA.mk hc0; clear hr0 hc0 h c2; have hq : ∀ w, (binOp .eql 22 (.slice A0 l0.length c0) (.slice none 0 0)).run Tryz.prog w = .ok (.bool A0.isNone) w := fun w => run_eql_slice_nil w 22 26 A0 _ _ Tryz.underlying22
 have HB := zA.mk (Below.refl w.heap.size w)
 cases A0 with
 | none =>
  have h0 : l0 = [] := by
   rcases Nat.eq_zero_or_pos l0.length with h0 | h0
   · exact List.eq_nil_of_length_eq_zero h0
   · obtain ⟨ad, e, _⟩ := HR0.out.2.2 h0; cases e
  subst h0; have hq0 : ∀ w, (binOp .eql 22 (.slice none 0 c0) (.slice none 0 0)).run Tryz.prog w = .ok (.bool true) w := fun w => run_eql_slice_nil w 22 26 none 0 c0 Tryz.underlying22
  go_enter Tryz.func38, Tryz.ntmps38
  go_wp2; go_ret
  exact ⟨_, rfl, Kd.zHS _ _ _ _ _, HB.out⟩
 | some ad =>
  obtain ⟨y1, hy1⟩ : ∃ y_ : List (S26), y_ = (([] : List (S26))) := ⟨_, rfl⟩; have Ny1 := zA.mk hy1; obtain ⟨y2, hy2⟩ : ∃ y_ : List (S26), y_ = (y1 ++ l0) := ⟨_, rfl⟩; have Ny2 := zA.mk hy2; clear hy1 hy2; go_enter Tryz.func38, Tryz.ntmps38
  go_wp2_with (first
   | ((with_reducible refine wF (N := 5) rfl ?_); refine Kd.zVD k26 _ 26 ?hg (N := 5) ?hd (xs := ([] : List (S26))) (inner := []) (ok := fun _ => True) (okp := fun _ => True) ?hr ?hp (fun _ hk => hk) trivial (Below.refl _ _) (Nat.le_refl _) (by simp) ?_; (case hd => rfl); (case hg => rfl); (case hr => first | (go_simp; done) | (go_simp; rfl)); (case hp => exact (Reps.none _ _)); intro v192 w5 ho6 hb hg_ hnew_; clear hg_ hnew_; (first | rw [← Ny1.out] at ho6 | (simp only [Int.reduceToNat] at ho6; rw [← Ny1.out] at ho6)); have n0_ := zA.mk (Kd.yK ho6 (zE HB.out)); have n3_ := zA.mk (zF HB.out hb); clear HB; have HO193 := n0_; have HB := n3_; clear n0_ n3_; clear hb ho6)
   | ((with_reducible refine qA (b := .append) (xs := #[.tmp 5, .tmp 6]) rfl ?_); at_builtin; refine Kd.zPX k26 (w0 := w) w.heap.size rfl (.tmp 5) (.tmp 6) 22 26 ((.agg #[(.int .i64 0), (.int .i64 0), (.int .i64 0)])) 24 rfl Tryz.underlying22 zAA rfl (by decide) (by omega) v192 y1 l0 _ _ _ (fun _ => True) (fun _ => False) rfl rfl ?aO ?aR (fun _ _ h => h) (fun _ h => h.elim) ?aF ?aB ?aS ?aL ?_; (case aR => repeat (first | exact (Kd.qW HR0.out HB.out) | (with_reducible refine Kd.vZ ?_ _) | (with_reducible refine Kd.vY ?_ _) | (with_reducible refine Kd.qU ?_))); (case aB => exact (eG HB.out)); (case aF => exact (fun _ _ => trivial)); (case aO => exact (rG HO193.out)); (case aS => exact (zE (eG HB.out))); (case aL => have := LM.out; have := Ny1.out; subst this; simp; omega); intro v195 w9 ho hb hg hat; rw [← Ny2.out] at ho; have n2_ := zA.mk (hb); have n3_ := zA.mk (ho); clear HB; clear HO193; have HB := n2_; have HO196 := n3_; clear n2_ n3_; clear ho hb hg hat))
  go_ret
  have e2 : y2 = l0 := by rw [Ny2.out, Ny1.out]; rfl
  rw [e2] at HO196; exact ⟨_, rfl, by (with_reducible repeat (first | apply Kd.zT | apply Kd.zS | apply Kd.wD)); exact HO196.out, eG HB.out⟩
def vJ.f (k : Nat) (a0_0 : Int) (l0_1 : List (S26)) : Option (Bool) := (wU.f k a0_0 l0_1).bind fun bt124 => (some (bt124.2 == 0))
set_option maxHeartbeats 8000000 in
set_option maxRecDepth 100000 in
theorem vJ.calls (k : Nat) (a0_0 : Int) (A0_1 : Option Addr) (c0_1 : Nat) (l0_1 : List (S26)) (r : Bool) (w : World) (hr0_1 : Kd.C k26 w A0_1 l0_1.length l0_1) (uG : l0_1.length ≤ c0_1) (h : vJ.f k a0_0 l0_1 = some r) :
  Calls Tryz.prog 41 #[.agg #[.int .i64 a0_0, .slice A0_1 l0_1.length c0_1]] w fun e w' => e = .returned (.bool r) ∧ Below w.heap.size w w' := by
 have hu24 := Tryz.underlying24; have HR0_1 := zA.mk hr0_1; have HC0_1 := zA.mk uG; clear hr0_1 uG; have HB := zA.mk (Below.refl w.heap.size w); have H : ((wU.f k a0_0 l0_1).bind fun bt124 => (some (bt124.2 == 0))) = some r := h; clear h; replace H := Option.bind_eq_some_iff.mp H; obtain ⟨⟨t124, t125⟩, A20, H⟩ := H; replace H : (some (t125 == 0)) = some r := H; have A2 := zA.mk A20; clear A20; obtain rfl := Option.some.inj H; go_enter Tryz.func41, Tryz.ntmps41
 go_wp2_with (first | ((with_reducible refine wF (N := 1) rfl ?_); refine wA ?hg (N := 1) ?hd (cs := #[.int .i64 a0_0, .slice A0_1 l0_1.length c0_1]) (t := 24) ?hr ?_; (case hd => rfl); (case hg => rfl); (case hr => first | (go_simp; done) | (go_simp; rfl)); intro gb123 hg w3 hbox hb; have n0_ := zA.mk (zF (eG HB.out) hb); have n1_ := zA.mk (hbox); have n2_ := zA.mk ((by rw [hg]; exact (zE (eG HB.out)) : w.heap.size ≤ gb123)); have n3_ := zA.mk ((by rw [hg]; exact (zE (eG HB.out)) : w.heap.size ≤ gb123)); clear HB; have HB := n0_; have zVK := n1_; have GW123 := n2_; have GE123 := n3_; have ig123_ := geI GE123; clear n0_ n1_ n2_ n3_; clear hb hbox hg; have zIP : w3.cell? ⟨gb123, 0, none⟩ = some (.int .i64 a0_0) := (zC zVK.out 0).trans rfl; have zIO : w3.cell? ⟨gb123, 1, none⟩ = some (.slice A0_1 l0_1.length c0_1) := (zC zVK.out 1).trans rfl; have zIL := zB zVK.out 0; have zIK := zB zVK.out 1) | ((with_reducible refine zQ (f := 13) rfl ?_); refine vB (some 7) rfl rfl Tryz.func13 (by kernel_rfl) rfl #[.agg #[.int .i64 a0_0, .slice A0_1 l0_1.length c0_1]] rfl (by (try simp only [List.map_toArray, List.map_cons, List.map_nil]); first | done | rfl | (simp only [List.length_drop, List.length_take]; rfl)) ?_; (with_reducible refine (wU.calls k a0_0 _ _ l0_1 t124 t125 _ ?side1 ?side2 A2.out).mono ?_); (case side1 => repeat (first | exact (Kd.qW HR0_1.out HB.out) | (with_reducible refine Kd.vZ ?_ _) | (with_reducible refine Kd.vY ?_ _) | (with_reducible refine Kd.qU ?_))); (case side2 => exact HC0_1.out); rintro e w5 ⟨rfl, hb⟩; refine ⟨_, rfl, ?_⟩; have n0_ := zA.mk (zG (bG zVK.out) hb); have n1_ := zA.mk (zF (eG HB.out) hb); clear zVK; clear HB; have zVK := n0_; have HB := n1_; clear n0_ n1_; (try clear hb); (try clear hb2); (try clear hk); (try clear hi)))
 go_ret
 exact ⟨by first | rfl | (simp [zN, zM] <;> rfl) | (simp [*, zN, zM] <;> rfl), eG HB.out⟩
end Go.Proofs.YtholbmidciapdaaGreatDoor.Pr
namespace Go.Proofs.YtholbmidciapdaaGreatDoor.Pr
open Go.RowKit Go.Proofs.YtholbmidciapdaaGreatDoorW.PrintWords Go.Proofs.YtholbmidciapdaaGreatDoorW.PrintLast Go.Proofs.YtholbmidciapdaaGreatDoorW.PrintMore Go.Proofs.YtholbmidciapdaaGreatDoor.X
attribute [local go_sem] uR uP kP kO jN jM uQ uO   -- for this text's walks alone
set_option linter.unusedVariables false
set_option linter.unusedSimpArgs false
attribute [local go_sem high] eqA26
mutual
def wV.j0 : Nat → Bool → Int → List (S26) → Int → List (S26) → Option (Bool)
 | 0, _, _, _, _, _ => none
 | k + 1, x19, zRG, zGU, zRF, zGT => if x19 = true then (some false) else (wV.l0 k 0 zRG zGU zRF zGT)
def wV.l0 : Nat → Int → Int → List (S26) → Int → List (S26) → Option (Bool)
 | 0, _, _, _, _, _ => none
 | k + 1, x5, zRG, zGU, zRF, zGT => if x5 < (zGU.length : Int) then (if 0 ≤ x5 then (if x5 < (zGT.length : Int) then (if (!(((zH zGU x5).f0) == ((zH zGT x5).f0)) || (!(((zH zGU x5).f1) == ((zH zGT x5).f1)) || (!(((zH zGU x5).f2) == ((zH zGT x5).f2))))) = true then (some false) else (wV.l0 k (wrap64 (x5 + 1)) zRG zGU zRF zGT)) else (none)) else (none)) else (some true)
end
def wV.f (k : Nat) (a0_0 : Int) (l0_1 : List (S26)) (a1_0 : Int) (l1_1 : List (S26)) : Option (Bool) := if a0_0 = a1_0 then (wV.j0 k ((l0_1.length : Int) != (l1_1.length : Int)) a0_0 l0_1 a1_0 l1_1) else (wV.j0 k true a0_0 l0_1 a1_0 l1_1)
set_option maxHeartbeats 8000000 in
set_option maxRecDepth 100000 in
theorem wV.calls (k : Nat) (a0_0 : Int) (A0_1 : Option Addr) (c0_1 : Nat) (l0_1 : List (S26)) (a1_0 : Int) (A1_1 : Option Addr) (c1_1 : Nat) (l1_1 : List (S26)) (r : Bool) (w : World) (hr0_1 : Kd.C k26 w A0_1 l0_1.length l0_1) (uG : l0_1.length ≤ c0_1) (hr1_1 : Kd.C k26 w A1_1 l1_1.length l1_1) (hc1_1 : l1_1.length ≤ c1_1) (h : wV.f k a0_0 l0_1 a1_0 l1_1 = some r) :
  Calls Tryz.prog 18 #[.agg #[.int .i64 a0_0, .slice A0_1 l0_1.length c0_1], .agg #[.int .i64 a1_0, .slice A1_1 l1_1.length c1_1]] w fun e w' => e = .returned (.bool r) ∧ Below w.heap.size w w' := by
 have hu24 := Tryz.underlying24; have hu26 := Tryz.underlying26; have HR0_1 := zA.mk hr0_1; have HC0_1 := zA.mk uG; clear hr0_1 uG; have HR1_1 := zA.mk hr1_1; have HC1_1 := zA.mk hc1_1; clear hr1_1 hc1_1; have HB := zA.mk (Below.refl w.heap.size w); have H : (if a0_0 = a1_0 then (wV.j0 k ((l0_1.length : Int) != (l1_1.length : Int)) a0_0 l0_1 a1_0 l1_1) else (wV.j0 k true a0_0 l0_1 a1_0 l1_1)) = some r := h; clear h; have HC3 := zA.mk H; clear H; go_enter Tryz.func18, Tryz.ntmps18
 go_upto_region 1 with (first | ((with_reducible refine wF (N := 2) rfl ?_); (try (refine vA (by rfl) ?_; dsimp only)); refine wA ?hg (N := 2) ?hd (cs := #[.int .i64 a0_0, .slice A0_1 l0_1.length c0_1]) (t := 24) ?hr ?_; (case hd => rfl); (case hg => rfl); (case hr => first | (go_simp; done) | (go_simp; rfl)); intro vX hg w4 hbox hb; have n0_ := zA.mk (zF (eG HB.out) hb); have n1_ := zA.mk (hbox); have n2_ := zA.mk ((by rw [hg]; exact (zE (eG HB.out)) : w.heap.size ≤ vX)); have n3_ := zA.mk ((by rw [hg]; exact (zE (eG HB.out)) : w.heap.size ≤ vX)); clear HB; have HB := n0_; have wG := n1_; have zVH := n2_; have zHU := n3_; have zKU := geI zHU; clear n0_ n1_ n2_ n3_; clear hb hbox hg) | ((with_reducible refine wF (N := 3) rfl ?_); (try (refine vA (by rfl) ?_; dsimp only)); refine wA ?hg (N := 3) ?hd (cs := #[.int .i64 a1_0, .slice A1_1 l1_1.length c1_1]) (t := 24) ?hr ?_; (case hd => rfl); (case hg => rfl); (case hr => first | (go_simp; done) | (go_simp; rfl)); intro vN hg w5 hbox hb; have n0_ := zA.mk (zG (bG wG.out) hb); have n1_ := zA.mk (zF (eG HB.out) hb); have n2_ := zA.mk (hbox); have n3_ := zA.mk ((by rw [hg]; exact (zE (eG HB.out)) : w.heap.size ≤ vN)); have n4_ := zA.mk ((by rw [hg]; exact (zE (eG HB.out)) : w.heap.size ≤ vN)); have n5_ := zA.mk ((by rw [hg]; exact Nat.ne_of_lt (wC (bG wG.out)) : vX ≠ vN)); have n6_ := zA.mk ((by rw [hg]; exact Nat.ne_of_gt (wC (bG wG.out)) : vN ≠ vX)); clear wG; clear HB; have wG := n0_; have HB := n1_; have wL := n2_; have zVG := n3_; have zHT := n4_; have zKT := geI zHT; have jW := n5_; have jV := n6_; clear n0_ n1_ n2_ n3_ n4_ n5_ n6_; clear hb hbox hg))
 repeat (go_quiet (first | ((with_reducible refine wF (N := 2) rfl ?_); (try (refine vA (by rfl) ?_; dsimp only)); refine wA ?hg (N := 2) ?hd (cs := #[.int .i64 a0_0, .slice A0_1 l0_1.length c0_1]) (t := 24) ?hr ?_; (case hd => rfl); (case hg => rfl); (case hr => first | (go_simp; done) | (go_simp; rfl)); intro vX hg w4 hbox hb; have n0_ := zA.mk (zF (eG HB.out) hb); have n1_ := zA.mk (hbox); have n2_ := zA.mk ((by rw [hg]; exact (zE (eG HB.out)) : w.heap.size ≤ vX)); have n3_ := zA.mk ((by rw [hg]; exact (zE (eG HB.out)) : w.heap.size ≤ vX)); clear HB; have HB := n0_; have wG := n1_; have zVH := n2_; have zHU := n3_; have zKU := geI zHU; clear n0_ n1_ n2_ n3_; clear hb hbox hg) | ((with_reducible refine wF (N := 3) rfl ?_); (try (refine vA (by rfl) ?_; dsimp only)); refine wA ?hg (N := 3) ?hd (cs := #[.int .i64 a1_0, .slice A1_1 l1_1.length c1_1]) (t := 24) ?hr ?_; (case hd => rfl); (case hg => rfl); (case hr => first | (go_simp; done) | (go_simp; rfl)); intro vN hg w5 hbox hb; have n0_ := zA.mk (zG (bG wG.out) hb); have n1_ := zA.mk (zF (eG HB.out) hb); have n2_ := zA.mk (hbox); have n3_ := zA.mk ((by rw [hg]; exact (zE (eG HB.out)) : w.heap.size ≤ vN)); have n4_ := zA.mk ((by rw [hg]; exact (zE (eG HB.out)) : w.heap.size ≤ vN)); have n5_ := zA.mk ((by rw [hg]; exact Nat.ne_of_lt (wC (bG wG.out)) : vX ≠ vN)); have n6_ := zA.mk ((by rw [hg]; exact Nat.ne_of_gt (wC (bG wG.out)) : vN ≠ vX)); clear wG; clear HB; have wG := n0_; have HB := n1_; have wL := n2_; have zVG := n3_; have zHT := n4_; have zKT := geI zHT; have jW := n5_; have jV := n6_; clear n0_ n1_ n2_ n3_ n4_ n5_ n6_; clear hb hbox hg)); go_upto_region 1 with (first | ((with_reducible refine wF (N := 2) rfl ?_); (try (refine vA (by rfl) ?_; dsimp only)); refine wA ?hg (N := 2) ?hd (cs := #[.int .i64 a0_0, .slice A0_1 l0_1.length c0_1]) (t := 24) ?hr ?_; (case hd => rfl); (case hg => rfl); (case hr => first | (go_simp; done) | (go_simp; rfl)); intro vX hg w4 hbox hb; have n0_ := zA.mk (zF (eG HB.out) hb); have n1_ := zA.mk (hbox); have n2_ := zA.mk ((by rw [hg]; exact (zE (eG HB.out)) : w.heap.size ≤ vX)); have n3_ := zA.mk ((by rw [hg]; exact (zE (eG HB.out)) : w.heap.size ≤ vX)); clear HB; have HB := n0_; have wG := n1_; have zVH := n2_; have zHU := n3_; have zKU := geI zHU; clear n0_ n1_ n2_ n3_; clear hb hbox hg) | ((with_reducible refine wF (N := 3) rfl ?_); (try (refine vA (by rfl) ?_; dsimp only)); refine wA ?hg (N := 3) ?hd (cs := #[.int .i64 a1_0, .slice A1_1 l1_1.length c1_1]) (t := 24) ?hr ?_; (case hd => rfl); (case hg => rfl); (case hr => first | (go_simp; done) | (go_simp; rfl)); intro vN hg w5 hbox hb; have n0_ := zA.mk (zG (bG wG.out) hb); have n1_ := zA.mk (zF (eG HB.out) hb); have n2_ := zA.mk (hbox); have n3_ := zA.mk ((by rw [hg]; exact (zE (eG HB.out)) : w.heap.size ≤ vN)); have n4_ := zA.mk ((by rw [hg]; exact (zE (eG HB.out)) : w.heap.size ≤ vN)); have n5_ := zA.mk ((by rw [hg]; exact Nat.ne_of_lt (wC (bG wG.out)) : vX ≠ vN)); have n6_ := zA.mk ((by rw [hg]; exact Nat.ne_of_gt (wC (bG wG.out)) : vN ≠ vX)); clear wG; clear HB; have wG := n0_; have HB := n1_; have wL := n2_; have zVG := n3_; have zHT := n4_; have zKT := geI zHT; have jW := n5_; have jV := n6_; clear n0_ n1_ n2_ n3_ n4_ n5_ n6_; clear hb hbox hg)))
 (try simp only [Act.put, sIA, sC0, sCS])
 go_cut [19] (fun v19 wc => ∃ (kq : Nat) (x19_2 : Bool), v19 = .bool x19_2 ∧ zA (wV.j0 kq x19_2 a0_0 l0_1 a1_0 l1_1 = some r) ∧ zA (kq ≤ k) ∧ zA (wc.heap[vX]? = some (.cells #[.int .i64 a0_0, (.slice A0_1 l0_1.length c0_1)] 24 (0, 0))) ∧ zA (wc.heap[vN]? = some (.cells #[.int .i64 a1_0, (.slice A1_1 l1_1.length c1_1)] 24 (0, 0))) ∧ zA (Below w.heap.size w wc))
 case first =>
  have H := HC3.out; clear HC3; by_cases c6 : a0_0 = a1_0
  ·
   rw [if_pos c6] at H; have c6b0 : (a0_0 == a1_0) = true := beq_iff_eq.mpr c6; have c6b1 : (a0_0 != a1_0) = false := bne_eq_false_iff_eq.mpr c6; clear c6; (first | rw [c6b0] | (simp only [wJ, wK]; rw [c6b0]) | skip)
   have H' := zA.mk H; clear H; have hnb7 := jW.out; have hnc7 := jV.out; have zFM : w5.cell? ⟨vX, 0, none⟩ = some (.int .i64 a0_0) := (zC wG.out 0).trans rfl; have zFL : w5.cell? ⟨vX, 1, none⟩ = some (.slice A0_1 l0_1.length c0_1) := (zC wG.out 1).trans rfl; have zFK := zB wG.out 0; have zFJ := zB wG.out 1; have zIN : w5.cell? ⟨vN, 0, none⟩ = some (.int .i64 a1_0) := (zC wL.out 0).trans rfl; have zIM : w5.cell? ⟨vN, 1, none⟩ = some (.slice A1_1 l1_1.length c1_1) := (zC wL.out 1).trans rfl; have zIJ := zB wL.out 0; have zII := zB wL.out 1; go_wp2; repeat (go_quiet (fail); try go_wp2)
   go_meet
   case rel => exact ⟨_, (((l0_1.length : Int) != (l1_1.length : Int))), (by first | rfl | (simp; done) | (simp [*]; done)), H', ⟨by first | omega | exact Nat.le_refl _⟩, ⟨by (with_reducible repeat first | apply bN | apply bD | apply bA); exact wG.out⟩, ⟨by (with_reducible repeat first | apply bN | apply bD | apply bA); exact wL.out⟩, ⟨eG HB.out⟩⟩
  ·
   rw [if_neg c6] at H; have c6b0 : (a0_0 == a1_0) = false := beq_eq_false_iff_ne.mpr c6; have c6b1 : (a0_0 != a1_0) = true := bne_iff_ne.mpr c6; (first | rw [c6b0] | (simp only [wJ, wK]; rw [c6b0]) | skip)
   have H' := zA.mk H; clear H; have hnb10 := jW.out; have hnc10 := jV.out; have zHN : w5.cell? ⟨vX, 0, none⟩ = some (.int .i64 a0_0) := (zC wG.out 0).trans rfl; have zHM : w5.cell? ⟨vX, 1, none⟩ = some (.slice A0_1 l0_1.length c0_1) := (zC wG.out 1).trans rfl; have zHH := zB wG.out 0; have zHG := zB wG.out 1; have zJK : w5.cell? ⟨vN, 0, none⟩ = some (.int .i64 a1_0) := (zC wL.out 0).trans rfl; have zJJ : w5.cell? ⟨vN, 1, none⟩ = some (.slice A1_1 l1_1.length c1_1) := (zC wL.out 1).trans rfl; have zJI := zB wL.out 0; have zJH := zB wL.out 1; go_wp2; repeat (go_quiet (fail); try go_wp2)
   go_meet
   case rel => exact ⟨_, (true), (by first | rfl | (simp; done) | (simp [*]; done)), H', ⟨by first | omega | exact Nat.le_refl _⟩, ⟨by (with_reducible repeat first | apply bN | apply bD | apply bA); exact wG.out⟩, ⟨by (with_reducible repeat first | apply bN | apply bD | apply bA); exact wL.out⟩, ⟨eG HB.out⟩⟩
 case rest =>
  clear HC3; repeat first | clear c1 | clear p2 | clear c6 | clear c6b0 | clear c6b1 | clear c7 | clear c10 | clear zHN | clear zHM | clear zJK | clear zJJ | clear zFM | clear zFL | clear zIN | clear zIM | clear zHH | clear zHG | clear zJI | clear zJH | clear zFK | clear zFJ | clear zIJ | clear zII
  obtain ⟨kq, x19_2, rfl, HA, HJ2, wG, wL, HB⟩ := hcut
  cases kq with
  | zero => exact absurd HA.out (by simp [wV.j0])
  | succ kj2 =>
   have H := HA.out; clear HA; simp only [wV.j0] at H; by_cases c13 : x19_2 = true
   ·
    subst c13; replace H : (some false) = some r := by rw [if_pos rfl] at H; exact H
    obtain rfl := Option.some.inj H; go_wp2; repeat (go_quiet (fail); try go_wp2)
    go_ret
    exact ⟨by first | rfl | (simp [zN, zM] <;> rfl) | (simp [*, zN, zM] <;> rfl), eG HB.out⟩
   ·
    replace c13 := Bool.eq_false_iff.mpr c13; subst c13; replace H : (wV.l0 kj2 0 a0_0 l0_1 a1_0 l1_1) = some r := by rw [if_neg (show ¬ (false = true) by decide)] at H; exact H
    have H' := zA.mk H; clear H; go_wp2; repeat (go_quiet (fail); try go_wp2)
    go_loopg [5] kj2 (fun kq v5 w' => ∃ (x5_2 : Int), v5 = .int .i64 x5_2 ∧ zA (wV.l0 kq x5_2 a0_0 l0_1 a1_0 l1_1 = some r) ∧ zA (kq ≤ kj2) ∧ zA (w'.heap[vX]? = some (.cells #[.int .i64 a0_0, (.slice A0_1 l0_1.length c0_1)] 24 (0, 0))) ∧ zA (w'.heap[vN]? = some (.cells #[.int .i64 a1_0, (.slice A1_1 l1_1.length c1_1)] 24 (0, 0))) ∧ zA (Below w.heap.size w w'))
    case atStart => exact ⟨(0), (by first | rfl | (simp; done) | (simp [*]; done)), H', ⟨Nat.le_refl _⟩, ⟨by (with_reducible repeat first | apply bN | apply bD | apply bA); exact wG.out⟩, ⟨by (with_reducible repeat first | apply bN | apply bD | apply bA); exact wL.out⟩, ⟨eG HB.out⟩⟩
    case round =>
     clear H'; repeat first | clear c1 | clear p2 | clear c6 | clear c6b0 | clear c6b1 | clear c7 | clear c10 | clear c13 | clear zHN | clear zHM | clear zJK | clear zJJ | clear zFM | clear zFL | clear zIN | clear zIM | clear zHH | clear zHG | clear zJI | clear zJH | clear zFK | clear zFJ | clear zIJ | clear zII | clear p2
     obtain ⟨x5_2, rfl, HA, HK2, wG, wL, HB⟩ := hrel
     cases gk with
     | zero => exact absurd HA.out (by simp [wV.l0])
     | succ k2 =>
      have H := HA.out; clear HA; simp only [wV.l0] at H; by_cases c14 : x5_2 < (l0_1.length : Int)
      ·
       rw [if_pos c14] at H; have c14b0 : decide (x5_2 < (l0_1.length : Int)) = true := decide_eq_true c14; clear c14; by_cases c15 : 0 ≤ x5_2
       ·
        rw [if_pos c15] at H; have c15b0 : decide (0 ≤ x5_2) = true := decide_eq_true c15; clear c15; by_cases c16 : x5_2 < (l1_1.length : Int)
        ·
         rw [if_pos c16] at H; have c16b0 : decide (x5_2 < (l1_1.length : Int)) = true := decide_eq_true c16; clear c16; by_cases c17 : (!(((zH l0_1 x5_2).f0) == ((zH l1_1 x5_2).f0)) || (!(((zH l0_1 x5_2).f1) == ((zH l1_1 x5_2).f1)) || (!(((zH l0_1 x5_2).f2) == ((zH l1_1 x5_2).f2))))) = true
         ·
          rw [if_pos c17] at H; have c17b0 : (!(((zH l0_1 x5_2).f0) == ((zH l1_1 x5_2).f0)) || (!(((zH l0_1 x5_2).f1) == ((zH l1_1 x5_2).f1)) || (!(((zH l0_1 x5_2).f2) == ((zH l1_1 x5_2).f2))))) = true := c17; clear c17; obtain rfl := Option.some.inj H; have hnb18 := jW.out; have hnc18 := jV.out; have zLK : wr.cell? ⟨vX, 0, none⟩ = some (.int .i64 a0_0) := (zC wG.out 0).trans rfl; have zLJ : wr.cell? ⟨vX, 1, none⟩ = some (.slice A0_1 l0_1.length c0_1) := (zC wG.out 1).trans rfl; have zLD := zB wG.out 0; have zLC := zB wG.out 1; have p133 : 0 ≤ (x5_2 : Int) := of_decide_eq_true (by first | (with_reducible assumption) | assumption); have q133 : x5_2 < (l0_1.length : Int) := of_decide_eq_true (by first | (with_reducible assumption) | assumption); obtain ⟨ad133, e133, zHB, zHA, zGZ⟩ := uM HR0_1.out x5_2 p133 q133; cases e133; replace zHB := (HB.out.cell (World.block_lt_of_cell? w _ zHB)).trans zHB; replace zHA := (HB.out.cell (World.block_lt_of_cell? w _ zHA)).trans zHA; replace zGZ := (HB.out.cell (World.block_lt_of_cell? w _ zGZ)).trans zGZ; replace p133 := eq_true p133; replace q133 := eq_true q133; have hcz20_0 : wr.cell? ⟨vN, 0, none⟩ = some (.int .i64 a1_0) := (zC wL.out 0).trans rfl; have hcz20_1 : wr.cell? ⟨vN, 1, none⟩ = some (.slice A1_1 l1_1.length c1_1) := (zC wL.out 1).trans rfl; have hfz20_0 := zB wL.out 0; have hfz20_1 := zB wL.out 1; have p134 : 0 ≤ (x5_2 : Int) := of_decide_eq_true (by first | (with_reducible assumption) | assumption); have q134 : x5_2 < (l1_1.length : Int) := of_decide_eq_true (by first | (with_reducible assumption) | assumption); obtain ⟨ad134, e134, zGY, zGX, zGW⟩ := uM HR1_1.out x5_2 p134 q134; cases e134; replace zGY := (HB.out.cell (World.block_lt_of_cell? w _ zGY)).trans zGY; replace zGX := (HB.out.cell (World.block_lt_of_cell? w _ zGX)).trans zGX; replace zGW := (HB.out.cell (World.block_lt_of_cell? w _ zGW)).trans zGW; replace p134 := eq_true p134; replace q134 := eq_true q134; go_wp2; repeat (go_quiet (fail); try go_wp2)
          go_ret
          exact ⟨by first | rfl | (simp [zN, zM] <;> rfl) | (simp [*, zN, zM] <;> rfl), eG HB.out⟩
         ·
          rw [if_neg c17] at H; have c17b0 : (!(((zH l0_1 x5_2).f0) == ((zH l1_1 x5_2).f0)) || (!(((zH l0_1 x5_2).f1) == ((zH l1_1 x5_2).f1)) || (!(((zH l0_1 x5_2).f2) == ((zH l1_1 x5_2).f2))))) = false := by simpa using c17
          clear c17; have H' := zA.mk H; clear H; have zWR := jW.out; have zWQ := jV.out; have zHJ : wr.cell? ⟨vX, 0, none⟩ = some (.int .i64 a0_0) := (zC wG.out 0).trans rfl; have zHI : wr.cell? ⟨vX, 1, none⟩ = some (.slice A0_1 l0_1.length c0_1) := (zC wG.out 1).trans rfl; have zHD := zB wG.out 0; have zHC := zB wG.out 1; have p133 : 0 ≤ (x5_2 : Int) := of_decide_eq_true (by first | (with_reducible assumption) | assumption); have q133 : x5_2 < (l0_1.length : Int) := of_decide_eq_true (by first | (with_reducible assumption) | assumption); obtain ⟨ad133, e133, zHB, zHA, zGZ⟩ := uM HR0_1.out x5_2 p133 q133; cases e133; replace zHB := (HB.out.cell (World.block_lt_of_cell? w _ zHB)).trans zHB; replace zHA := (HB.out.cell (World.block_lt_of_cell? w _ zHA)).trans zHA; replace zGZ := (HB.out.cell (World.block_lt_of_cell? w _ zGZ)).trans zGZ; replace p133 := eq_true p133; replace q133 := eq_true q133; have wAJ : wr.cell? ⟨vN, 0, none⟩ = some (.int .i64 a1_0) := (zC wL.out 0).trans rfl; have wAI : wr.cell? ⟨vN, 1, none⟩ = some (.slice A1_1 l1_1.length c1_1) := (zC wL.out 1).trans rfl; have zZP := zB wL.out 0; have zZO := zB wL.out 1; have p134 : 0 ≤ (x5_2 : Int) := of_decide_eq_true (by first | (with_reducible assumption) | assumption); have q134 : x5_2 < (l1_1.length : Int) := of_decide_eq_true (by first | (with_reducible assumption) | assumption); obtain ⟨ad134, e134, zGY, zGX, zGW⟩ := uM HR1_1.out x5_2 p134 q134; cases e134; replace zGY := (HB.out.cell (World.block_lt_of_cell? w _ zGY)).trans zGY; replace zGX := (HB.out.cell (World.block_lt_of_cell? w _ zGX)).trans zGX; replace zGW := (HB.out.cell (World.block_lt_of_cell? w _ zGW)).trans zGW; replace p134 := eq_true p134; replace q134 := eq_true q134; go_wp2; repeat (go_quiet (fail); try go_wp2)
          go_roundg k2
          case measure => have := HJ2.out; have := HK2.out; omega
          case rel => exact ⟨(wrap64 (x5_2 + 1)), (by first | rfl | (simp; done) | (simp [*]; done)), H', ⟨by have := HJ2.out; have := HK2.out; omega⟩, ⟨by (with_reducible repeat first | apply bN | apply bD | apply bA); exact wG.out⟩, ⟨by (with_reducible repeat first | apply bN | apply bD | apply bA); exact wL.out⟩, ⟨eG HB.out⟩⟩
        · rw [if_neg c16] at H; exact absurd H (by simp)
       · rw [if_neg c15] at H; exact absurd H (by simp)
      ·
       rw [if_neg c14] at H; have c14b0 : decide (x5_2 < (l0_1.length : Int)) = false := decide_eq_false c14; clear c14; obtain rfl := Option.some.inj H; have hnb24 := jW.out; have hnc24 := jV.out; have hcz25_0 : wr.cell? ⟨vX, 0, none⟩ = some (.int .i64 a0_0) := (zC wG.out 0).trans rfl; have hcz25_1 : wr.cell? ⟨vX, 1, none⟩ = some (.slice A0_1 l0_1.length c0_1) := (zC wG.out 1).trans rfl; have hfz25_0 := zB wG.out 0; have hfz25_1 := zB wG.out 1; go_wp2; repeat (go_quiet (fail); try go_wp2)
       go_ret
       exact ⟨by first | rfl | (simp [zN, zM] <;> rfl) | (simp [*, zN, zM] <;> rfl), eG HB.out⟩
def qQ.l0 : Nat → Int → Int → Bool → List (S26) → Int → Int → Int → Int → Int → Option (Int × Int × Int × Bool)
 | 0, _, _, _, _, _, _, _, _, _ => none
 | k + 1, x1, x2, x9, x13, x14, x15, zRE, zRD, zRC => if x15 < x14 then (if 0 ≤ x15 then (if x15 < (x13.length : Int) then (if ((zH x13 x15).f0) = x1 then (if ((zH x13 x15).f1) ≤ x2 then (qQ.l0 k x1 x2 true x13 x14 (wrap64 (x15 + 1)) ((zH x13 x15).f0) ((zH x13 x15).f1) ((zH x13 x15).f2)) else (qQ.l0 k x1 x2 x9 x13 x14 (wrap64 (x15 + 1)) zRE zRD zRC)) else (qQ.l0 k x1 x2 x9 x13 x14 (wrap64 (x15 + 1)) zRE zRD zRC)) else (none)) else (none)) else (some (zRE, zRD, zRC, x9))
def qQ.f (k : Nat) (a0_0 : Int) (l0_1 : List (S26)) (a1 : Int) (a2 : Int) : Option (Int × Int × Int × Bool) := qQ.l0 k a1 a2 false l0_1 (l0_1.length : Int) 0 0 0 0
set_option maxHeartbeats 8000000 in
set_option maxRecDepth 100000 in
theorem qQ.calls (k : Nat) (a0_0 : Int) (A0_1 : Option Addr) (c0_1 : Nat) (l0_1 : List (S26)) (a1 : Int) (a2 : Int) (r1 : Int) (r2 : Int) (r3 : Int) (r4 : Bool) (w : World) (hr0_1 : Kd.C k26 w A0_1 l0_1.length l0_1) (uG : l0_1.length ≤ c0_1) (h : qQ.f k a0_0 l0_1 a1 a2 = some (r1, r2, r3, r4)) :
  Calls Tryz.prog 45 #[.agg #[.int .i64 a0_0, .slice A0_1 l0_1.length c0_1], .int .i64 a1, .int .i64 a2] w fun e w' => e = .returned (.tuple #[.agg #[.int .i64 r1, .int .i64 r2, .int .i64 r3], .bool r4]) ∧ Below w.heap.size w w' := by
 have hu24 := Tryz.underlying24; have hu26 := Tryz.underlying26; have HR0_1 := zA.mk hr0_1; have HC0_1 := zA.mk uG; clear hr0_1 uG; have HB := zA.mk (Below.refl w.heap.size w); have H : (qQ.l0 k a1 a2 false l0_1 (l0_1.length : Int) 0 0 0 0) = some (r1, r2, r3, r4) := h; clear h; have H' := zA.mk H; clear H; go_enter Tryz.func45, Tryz.ntmps45
 go_wp2_with (first | ((with_reducible refine wF (N := 3) rfl ?_); refine wA ?hg (N := 3) ?hd (cs := #[.int .i64 a0_0, .slice A0_1 l0_1.length c0_1]) (t := 24) ?hr ?_; (case hd => rfl); (case hg => rfl); (case hr => first | (go_simp; done) | (go_simp; rfl)); intro zHP hg w4 hbox hb; have n0_ := zA.mk (zF (eG HB.out) hb); have n1_ := zA.mk (hbox); have n2_ := zA.mk ((by rw [hg]; exact (zE (eG HB.out)) : w.heap.size ≤ zHP)); have n3_ := zA.mk ((by rw [hg]; exact (zE (eG HB.out)) : w.heap.size ≤ zHP)); clear HB; have HB := n0_; have zAI := n1_; have GW135 := n2_; have GE135 := n3_; have ig135_ := geI GE135; clear n0_ n1_ n2_ n3_; clear hb hbox hg) | ((with_reducible refine wF (N := 6) rfl ?_); refine wA ?hg (N := 6) ?hd (cs := #[.int .i64 0, .int .i64 0, .int .i64 0]) (t := 26) ?hr ?_; (case hd => rfl); (case hg => rfl); (case hr => first | (go_simp; done) | (go_simp; rfl)); intro zFO hg w5 hbox hb; have n0_ := zA.mk (zG (bG zAI.out) hb); have n1_ := zA.mk (zF (eG HB.out) hb); have n2_ := zA.mk (hbox); have n3_ := zA.mk ((by rw [hg]; exact (zE (eG HB.out)) : w.heap.size ≤ zFO)); have n4_ := zA.mk ((by rw [hg]; exact (zE (eG HB.out)) : w.heap.size ≤ zFO)); have n5_ := zA.mk ((by rw [hg]; exact Nat.ne_of_lt (wC (bG zAI.out)) : zHP ≠ zFO)); have n6_ := zA.mk ((by rw [hg]; exact Nat.ne_of_gt (wC (bG zAI.out)) : zFO ≠ zHP)); clear zAI; clear HB; have zAI := n0_; have HB := n1_; have zAR := n2_; have GW136 := n3_; have GE136 := n4_; have ig136_ := geI GE136; have zRB := n5_; have zRA := n6_; clear n0_ n1_ n2_ n3_ n4_ n5_ n6_; clear hb hbox hg) | ((with_reducible refine wF (N := 8) rfl ?_); refine wA ?hg (N := 8) ?hd (cs := #[.int .i64 0, .int .i64 0, .int .i64 0]) (t := 26) ?hr ?_; (case hd => rfl); (case hg => rfl); (case hr => first | (go_simp; done) | (go_simp; rfl)); intro zET hg w6 hbox hb; have n0_ := zA.mk (zG (bG zAI.out) hb); have n1_ := zA.mk (zG (bG zAR.out) hb); have n2_ := zA.mk (zF (eG HB.out) hb); have n3_ := zA.mk (hbox); have n4_ := zA.mk ((by rw [hg]; exact (zE (eG HB.out)) : w.heap.size ≤ zET)); have n5_ := zA.mk ((by rw [hg]; exact (zE (eG HB.out)) : w.heap.size ≤ zET)); have n6_ := zA.mk ((by rw [hg]; exact Nat.ne_of_lt (wC (bG zAI.out)) : zHP ≠ zET)); have n7_ := zA.mk ((by rw [hg]; exact Nat.ne_of_gt (wC (bG zAI.out)) : zET ≠ zHP)); have n8_ := zA.mk ((by rw [hg]; exact Nat.ne_of_lt (wC (bG zAR.out)) : zFO ≠ zET)); have n9_ := zA.mk ((by rw [hg]; exact Nat.ne_of_gt (wC (bG zAR.out)) : zET ≠ zFO)); clear zAI; clear zAR; clear HB; have zAI := n0_; have zAR := n1_; have HB := n2_; have zAQ := n3_; have GW137 := n4_; have GE137 := n5_; have ig137_ := geI GE137; have zEE := n6_; have zMA := n7_; have zGE := n8_; have zQZ := n9_; clear n0_ n1_ n2_ n3_ n4_ n5_ n6_ n7_ n8_ n9_; clear hb hbox hg; have hnb7 := zRB.out; have hnc7 := zRA.out; have hnb8 := zEE.out; have hnc8 := zMA.out; have zIN : w6.cell? ⟨zHP, 0, none⟩ = some (.int .i64 a0_0) := (zC zAI.out 0).trans rfl; have zIM : w6.cell? ⟨zHP, 1, none⟩ = some (.slice A0_1 l0_1.length c0_1) := (zC zAI.out 1).trans rfl; have zIJ := zB zAI.out 0; have zII := zB zAI.out 1))
 go_loopg [9, 15] k (fun kq v9 v15 w' => ∃ (x9_1 : Bool) (x15_1 : Int) (kX : Int) (kW : Int) (kV : Int), v9 = .bool x9_1 ∧ v15 = .int .i64 x15_1 ∧ zA (qQ.l0 kq a1 a2 x9_1 l0_1 (l0_1.length : Int) x15_1 kX kW kV = some (r1, r2, r3, r4)) ∧ zA (kq ≤ k) ∧ zA (w'.heap[zHP]? = some (.cells #[.int .i64 a0_0, (.slice A0_1 l0_1.length c0_1)] 24 (0, 0))) ∧ zA (w'.heap[zFO]? = some (.cells #[.int .i64 0, .int .i64 0, .int .i64 0] 26 (0, 0))) ∧ zA (w'.heap[zET]? = some (.cells #[.int .i64 kX, .int .i64 kW, .int .i64 kV] 26 (0, 0))) ∧ zA (Below w.heap.size w w'))
 case atStart => exact ⟨(false), (0), (0), (0), (0), (by first | rfl | (simp; done) | (simp [*]; done)), (by first | rfl | (simp; done) | (simp [*]; done)), H', ⟨Nat.le_refl _⟩, ⟨by (with_reducible repeat first | apply bN | apply bD | apply bA); exact zAI.out⟩, ⟨by (with_reducible repeat first | apply bN | apply bD | apply bA); exact zAR.out⟩, ⟨by (with_reducible repeat first | apply bN | apply bD | apply bA); exact zAQ.out⟩, ⟨eG HB.out⟩⟩
 case round =>
  clear H'; repeat first | clear p2 | clear c4 | clear c7 | clear c8 | clear zIN | clear zIM | clear zIJ | clear zII
  obtain ⟨x9_1, x15_1, kX, kW, kV, rfl, rfl, HA, HK1, zAI, zAR, zAQ, HB⟩ := hrel
  cases gk with
  | zero => exact absurd HA.out (by simp [qQ.l0])
  | succ k1 =>
   have H := HA.out; clear HA; simp only [qQ.l0] at H; by_cases c10 : x15_1 < (l0_1.length : Int)
   ·
    rw [if_pos c10] at H; have c10b0 : decide (x15_1 < (l0_1.length : Int)) = true := decide_eq_true c10; clear c10; by_cases c11 : 0 ≤ x15_1
    ·
     rw [if_pos c11] at H; have c11b0 : decide (0 ≤ x15_1) = true := decide_eq_true c11; clear c11; by_cases c12 : x15_1 < (l0_1.length : Int)
     ·
      rw [if_pos c12] at H; have c12b0 : decide (x15_1 < (l0_1.length : Int)) = true := decide_eq_true c12; clear c12; by_cases c13 : ((zH l0_1 x15_1).f0) = a1
      ·
       rw [if_pos c13] at H; have c13b0 : (((zH l0_1 x15_1).f0) == a1) = true := beq_iff_eq.mpr c13; have c13b1 : (((zH l0_1 x15_1).f0) != a1) = false := bne_eq_false_iff_eq.mpr c13; clear c13; by_cases c14 : ((zH l0_1 x15_1).f1) ≤ a2
       ·
        rw [if_pos c14] at H; have c14b0 : decide (((zH l0_1 x15_1).f1) ≤ a2) = true := decide_eq_true c14; clear c14; have H' := zA.mk H; clear H; have p138 : 0 ≤ (x15_1 : Int) := of_decide_eq_true (by first | (with_reducible assumption) | assumption); have q138 : x15_1 < (l0_1.length : Int) := of_decide_eq_true (by first | (with_reducible assumption) | assumption); obtain ⟨ad138, e138, zCV, zCU, zCT⟩ := uM HR0_1.out x15_1 p138 q138; cases e138; replace zCV := (HB.out.cell (World.block_lt_of_cell? w _ zCV)).trans zCV; replace zCU := (HB.out.cell (World.block_lt_of_cell? w _ zCU)).trans zCU; replace zCT := (HB.out.cell (World.block_lt_of_cell? w _ zCT)).trans zCT; replace p138 := eq_true p138; replace q138 := eq_true q138; go_wp2_with (first | ((with_reducible refine wF (N := 11) rfl ?_); refine wA ?hg (N := 11) ?hd (cs := #[.int .i64 0, .int .i64 0, .int .i64 0]) (t := 26) ?hr ?_; (case hd => rfl); (case hg => rfl); (case hr => first | (go_simp; done) | (go_simp; rfl)); intro wY hg w15 hbox hb; have n0_ := zA.mk (zG (bG zAI.out) hb); have n1_ := zA.mk (zG (bG zAR.out) hb); have n2_ := zA.mk (zG (bG zAQ.out) hb); have n3_ := zA.mk (zF (eG HB.out) hb); have n4_ := zA.mk (hbox); have n5_ := zA.mk ((by rw [hg]; exact (zE (eG HB.out)) : w.heap.size ≤ wY)); have n6_ := zA.mk ((by rw [hg]; exact (zE (eG HB.out)) : w.heap.size ≤ wY)); have n7_ := zA.mk ((by rw [hg]; exact Nat.ne_of_lt (wC (bG zAI.out)) : zHP ≠ wY)); have n8_ := zA.mk ((by rw [hg]; exact Nat.ne_of_gt (wC (bG zAI.out)) : wY ≠ zHP)); have n9_ := zA.mk ((by rw [hg]; exact Nat.ne_of_lt (wC (bG zAR.out)) : zFO ≠ wY)); have n10_ := zA.mk ((by rw [hg]; exact Nat.ne_of_gt (wC (bG zAR.out)) : wY ≠ zFO)); have n11_ := zA.mk ((by rw [hg]; exact Nat.ne_of_lt (wC (bG zAQ.out)) : zET ≠ wY)); have n12_ := zA.mk ((by rw [hg]; exact Nat.ne_of_gt (wC (bG zAQ.out)) : wY ≠ zET)); clear zAI; clear zAR; clear zAQ; clear HB; have zAI := n0_; have zAR := n1_; have zAQ := n2_; have HB := n3_; have vU := n4_; have zGF := n5_; have zBL := n6_; have zFF := geI zBL; have uZ := n7_; have zGD := n8_; have uY := n9_; have zGC := n10_; have uX := n11_; have zGB := n12_; clear n0_ n1_ n2_ n3_ n4_ n5_ n6_ n7_ n8_ n9_ n10_ n11_ n12_; clear hb hbox hg; have hnb16 := zGD.out; have hnc16 := uZ.out; have hnb17 := zGC.out; have hnc17 := uY.out; have hnb18 := zGB.out; have hnc18 := uX.out; have zLK : w15.cell? ⟨wY, 0, none⟩ = some (.int .i64 0) := (zC vU.out 0).trans rfl; have zLJ : w15.cell? ⟨wY, 1, none⟩ = some (.int .i64 0) := (zC vU.out 1).trans rfl; have hcz19_2 : w15.cell? ⟨wY, 2, none⟩ = some (.int .i64 0) := (zC vU.out 2).trans rfl; have zLD := zB vU.out 0; have zLC := zB vU.out 1; have hfz19_2 := zB vU.out 2; have hnb20 := zMA.out; have hnc20 := zEE.out; have zWR := zQZ.out; have zWQ := zGE.out; have zHJ : w15.cell? ⟨zET, 0, none⟩ = some (.int .i64 kX) := (zC zAQ.out 0).trans rfl; have zHI : w15.cell? ⟨zET, 1, none⟩ = some (.int .i64 kW) := (zC zAQ.out 1).trans rfl; have wAK : w15.cell? ⟨zET, 2, none⟩ = some (.int .i64 kV) := (zC zAQ.out 2).trans rfl; have zHD := zB zAQ.out 0; have zHC := zB zAQ.out 1; have zZQ := zB zAQ.out 2))
        go_roundg k1
        case measure => have := HK1.out; omega
        case rel => exact ⟨(true), (wrap64 (x15_1 + 1)), ((zH l0_1 x15_1).f0), ((zH l0_1 x15_1).f1), ((zH l0_1 x15_1).f2), (by first | rfl | (simp; done) | (simp [*]; done)), (by first | rfl | (simp; done) | (simp [*]; done)), H', ⟨by have := HK1.out; omega⟩, ⟨by (with_reducible repeat first | apply bN | apply bD | apply bA); refine zV ?_ zEE.out _; (with_reducible repeat first | apply bN | apply bD | apply bA); refine zV ?_ zEE.out _; (with_reducible repeat first | apply bN | apply bD | apply bA); refine zV ?_ zEE.out _; (with_reducible repeat first | apply bN | apply bD | apply bA); refine zV ?_ uZ.out _; (with_reducible repeat first | apply bN | apply bD | apply bA); refine zV ?_ uZ.out _; (with_reducible repeat first | apply bN | apply bD | apply bA); refine zV ?_ uZ.out _; (with_reducible repeat first | apply bN | apply bD | apply bA); exact zAI.out⟩, ⟨by (with_reducible repeat first | apply bN | apply bD | apply bA); refine zV ?_ zGE.out _; (with_reducible repeat first | apply bN | apply bD | apply bA); refine zV ?_ zGE.out _; (with_reducible repeat first | apply bN | apply bD | apply bA); refine zV ?_ zGE.out _; (with_reducible repeat first | apply bN | apply bD | apply bA); refine zV ?_ uY.out _; (with_reducible repeat first | apply bN | apply bD | apply bA); refine zV ?_ uY.out _; (with_reducible repeat first | apply bN | apply bD | apply bA); refine zV ?_ uY.out _; (with_reducible repeat first | apply bN | apply bD | apply bA); exact zAR.out⟩, ⟨by (with_reducible repeat first | apply bN | apply bD | apply bA); refine wE (cs := #[.int .i64 ((zH l0_1 x15_1).f0), .int .i64 ((zH l0_1 x15_1).f1), .int .i64 kV]) ?_ 2 _ rfl; (with_reducible repeat first | apply bN | apply bD | apply bA); refine wE (cs := #[.int .i64 ((zH l0_1 x15_1).f0), .int .i64 kW, .int .i64 kV]) ?_ 1 _ rfl; (with_reducible repeat first | apply bN | apply bD | apply bA); refine wE (cs := #[.int .i64 kX, .int .i64 kW, .int .i64 kV]) ?_ 0 _ rfl; (with_reducible repeat first | apply bN | apply bD | apply bA); refine zV ?_ uX.out _; (with_reducible repeat first | apply bN | apply bD | apply bA); refine zV ?_ uX.out _; (with_reducible repeat first | apply bN | apply bD | apply bA); refine zV ?_ uX.out _; (with_reducible repeat first | apply bN | apply bD | apply bA); exact zAQ.out⟩, ⟨eG HB.out⟩⟩
       ·
        rw [if_neg c14] at H; have c14b0 : decide (((zH l0_1 x15_1).f1) ≤ a2) = false := decide_eq_false c14; clear c14; have H' := zA.mk H; clear H; have p138 : 0 ≤ (x15_1 : Int) := of_decide_eq_true (by first | (with_reducible assumption) | assumption); have q138 : x15_1 < (l0_1.length : Int) := of_decide_eq_true (by first | (with_reducible assumption) | assumption); obtain ⟨ad138, e138, zCV, zCU, zCT⟩ := uM HR0_1.out x15_1 p138 q138; cases e138; replace zCV := (HB.out.cell (World.block_lt_of_cell? w _ zCV)).trans zCV; replace zCU := (HB.out.cell (World.block_lt_of_cell? w _ zCU)).trans zCU; replace zCT := (HB.out.cell (World.block_lt_of_cell? w _ zCT)).trans zCT; replace p138 := eq_true p138; replace q138 := eq_true q138; go_wp2_with (first | ((with_reducible refine wF (N := 11) rfl ?_); refine wA ?hg (N := 11) ?hd (cs := #[.int .i64 0, .int .i64 0, .int .i64 0]) (t := 26) ?hr ?_; (case hd => rfl); (case hg => rfl); (case hr => first | (go_simp; done) | (go_simp; rfl)); intro wY hg w23 hbox hb; have n0_ := zA.mk (zG (bG zAI.out) hb); have n1_ := zA.mk (zG (bG zAR.out) hb); have n2_ := zA.mk (zG (bG zAQ.out) hb); have n3_ := zA.mk (zF (eG HB.out) hb); have n4_ := zA.mk (hbox); have n5_ := zA.mk ((by rw [hg]; exact (zE (eG HB.out)) : w.heap.size ≤ wY)); have n6_ := zA.mk ((by rw [hg]; exact (zE (eG HB.out)) : w.heap.size ≤ wY)); have n7_ := zA.mk ((by rw [hg]; exact Nat.ne_of_lt (wC (bG zAI.out)) : zHP ≠ wY)); have n8_ := zA.mk ((by rw [hg]; exact Nat.ne_of_gt (wC (bG zAI.out)) : wY ≠ zHP)); have n9_ := zA.mk ((by rw [hg]; exact Nat.ne_of_lt (wC (bG zAR.out)) : zFO ≠ wY)); have n10_ := zA.mk ((by rw [hg]; exact Nat.ne_of_gt (wC (bG zAR.out)) : wY ≠ zFO)); have n11_ := zA.mk ((by rw [hg]; exact Nat.ne_of_lt (wC (bG zAQ.out)) : zET ≠ wY)); have n12_ := zA.mk ((by rw [hg]; exact Nat.ne_of_gt (wC (bG zAQ.out)) : wY ≠ zET)); clear zAI; clear zAR; clear zAQ; clear HB; have zAI := n0_; have zAR := n1_; have zAQ := n2_; have HB := n3_; have vU := n4_; have zGF := n5_; have zBL := n6_; have zFF := geI zBL; have uZ := n7_; have zGD := n8_; have uY := n9_; have zGC := n10_; have uX := n11_; have zGB := n12_; clear n0_ n1_ n2_ n3_ n4_ n5_ n6_ n7_ n8_ n9_ n10_ n11_ n12_; clear hb hbox hg; have hnb24 := zGD.out; have hnc24 := uZ.out; have hnb25 := zGC.out; have hnc25 := uY.out; have hnb26 := zGB.out; have hnc26 := uX.out; have wAH : w23.cell? ⟨wY, 0, none⟩ = some (.int .i64 0) := (zC vU.out 0).trans rfl; have wAG : w23.cell? ⟨wY, 1, none⟩ = some (.int .i64 0) := (zC vU.out 1).trans rfl; have wAF : w23.cell? ⟨wY, 2, none⟩ = some (.int .i64 0) := (zC vU.out 2).trans rfl; have zZN := zB vU.out 0; have zZM := zB vU.out 1; have zZL := zB vU.out 2))
        go_roundg k1
        case measure => have := HK1.out; omega
        case rel => exact ⟨(x9_1), (wrap64 (x15_1 + 1)), (kX), (kW), (kV), (by first | rfl | (simp; done) | (simp [*]; done)), (by first | rfl | (simp; done) | (simp [*]; done)), H', ⟨by have := HK1.out; omega⟩, ⟨by (with_reducible repeat first | apply bN | apply bD | apply bA); refine zV ?_ uZ.out _; (with_reducible repeat first | apply bN | apply bD | apply bA); refine zV ?_ uZ.out _; (with_reducible repeat first | apply bN | apply bD | apply bA); refine zV ?_ uZ.out _; (with_reducible repeat first | apply bN | apply bD | apply bA); exact zAI.out⟩, ⟨by (with_reducible repeat first | apply bN | apply bD | apply bA); refine zV ?_ uY.out _; (with_reducible repeat first | apply bN | apply bD | apply bA); refine zV ?_ uY.out _; (with_reducible repeat first | apply bN | apply bD | apply bA); refine zV ?_ uY.out _; (with_reducible repeat first | apply bN | apply bD | apply bA); exact zAR.out⟩, ⟨by (with_reducible repeat first | apply bN | apply bD | apply bA); refine zV ?_ uX.out _; (with_reducible repeat first | apply bN | apply bD | apply bA); refine zV ?_ uX.out _; (with_reducible repeat first | apply bN | apply bD | apply bA); refine zV ?_ uX.out _; (with_reducible repeat first | apply bN | apply bD | apply bA); exact zAQ.out⟩, ⟨eG HB.out⟩⟩
      ·
       rw [if_neg c13] at H; have c13b0 : (((zH l0_1 x15_1).f0) == a1) = false := beq_eq_false_iff_ne.mpr c13; have c13b1 : (((zH l0_1 x15_1).f0) != a1) = true := bne_iff_ne.mpr c13; have H' := zA.mk H; clear H; have p138 : 0 ≤ (x15_1 : Int) := of_decide_eq_true (by first | (with_reducible assumption) | assumption); have q138 : x15_1 < (l0_1.length : Int) := of_decide_eq_true (by first | (with_reducible assumption) | assumption); obtain ⟨ad138, e138, zCV, zCU, zCT⟩ := uM HR0_1.out x15_1 p138 q138; cases e138; replace zCV := (HB.out.cell (World.block_lt_of_cell? w _ zCV)).trans zCV; replace zCU := (HB.out.cell (World.block_lt_of_cell? w _ zCU)).trans zCU; replace zCT := (HB.out.cell (World.block_lt_of_cell? w _ zCT)).trans zCT; replace p138 := eq_true p138; replace q138 := eq_true q138; go_wp2_with (first | ((with_reducible refine wF (N := 11) rfl ?_); refine wA ?hg (N := 11) ?hd (cs := #[.int .i64 0, .int .i64 0, .int .i64 0]) (t := 26) ?hr ?_; (case hd => rfl); (case hg => rfl); (case hr => first | (go_simp; done) | (go_simp; rfl)); intro wY hg w28 hbox hb; have n0_ := zA.mk (zG (bG zAI.out) hb); have n1_ := zA.mk (zG (bG zAR.out) hb); have n2_ := zA.mk (zG (bG zAQ.out) hb); have n3_ := zA.mk (zF (eG HB.out) hb); have n4_ := zA.mk (hbox); have n5_ := zA.mk ((by rw [hg]; exact (zE (eG HB.out)) : w.heap.size ≤ wY)); have n6_ := zA.mk ((by rw [hg]; exact (zE (eG HB.out)) : w.heap.size ≤ wY)); have n7_ := zA.mk ((by rw [hg]; exact Nat.ne_of_lt (wC (bG zAI.out)) : zHP ≠ wY)); have n8_ := zA.mk ((by rw [hg]; exact Nat.ne_of_gt (wC (bG zAI.out)) : wY ≠ zHP)); have n9_ := zA.mk ((by rw [hg]; exact Nat.ne_of_lt (wC (bG zAR.out)) : zFO ≠ wY)); have n10_ := zA.mk ((by rw [hg]; exact Nat.ne_of_gt (wC (bG zAR.out)) : wY ≠ zFO)); have n11_ := zA.mk ((by rw [hg]; exact Nat.ne_of_lt (wC (bG zAQ.out)) : zET ≠ wY)); have n12_ := zA.mk ((by rw [hg]; exact Nat.ne_of_gt (wC (bG zAQ.out)) : wY ≠ zET)); clear zAI; clear zAR; clear zAQ; clear HB; have zAI := n0_; have zAR := n1_; have zAQ := n2_; have HB := n3_; have vU := n4_; have zGF := n5_; have zBL := n6_; have zFF := geI zBL; have uZ := n7_; have zGD := n8_; have uY := n9_; have zGC := n10_; have uX := n11_; have zGB := n12_; clear n0_ n1_ n2_ n3_ n4_ n5_ n6_ n7_ n8_ n9_ n10_ n11_ n12_; clear hb hbox hg; have hnb29 := zGD.out; have hnc29 := uZ.out; have hnb30 := zGC.out; have hnc30 := uY.out; have hnb31 := zGB.out; have hnc31 := uX.out; have wAC : w28.cell? ⟨wY, 0, none⟩ = some (.int .i64 0) := (zC vU.out 0).trans rfl; have wAB : w28.cell? ⟨wY, 1, none⟩ = some (.int .i64 0) := (zC vU.out 1).trans rfl; have hcz32_2 : w28.cell? ⟨wY, 2, none⟩ = some (.int .i64 0) := (zC vU.out 2).trans rfl; have zZI := zB vU.out 0; have zZH := zB vU.out 1; have hfz32_2 := zB vU.out 2))
       go_roundg k1
       case measure => have := HK1.out; omega
       case rel => exact ⟨(x9_1), (wrap64 (x15_1 + 1)), (kX), (kW), (kV), (by first | rfl | (simp; done) | (simp [*]; done)), (by first | rfl | (simp; done) | (simp [*]; done)), H', ⟨by have := HK1.out; omega⟩, ⟨by (with_reducible repeat first | apply bN | apply bD | apply bA); refine zV ?_ uZ.out _; (with_reducible repeat first | apply bN | apply bD | apply bA); refine zV ?_ uZ.out _; (with_reducible repeat first | apply bN | apply bD | apply bA); refine zV ?_ uZ.out _; (with_reducible repeat first | apply bN | apply bD | apply bA); exact zAI.out⟩, ⟨by (with_reducible repeat first | apply bN | apply bD | apply bA); refine zV ?_ uY.out _; (with_reducible repeat first | apply bN | apply bD | apply bA); refine zV ?_ uY.out _; (with_reducible repeat first | apply bN | apply bD | apply bA); refine zV ?_ uY.out _; (with_reducible repeat first | apply bN | apply bD | apply bA); exact zAR.out⟩, ⟨by (with_reducible repeat first | apply bN | apply bD | apply bA); refine zV ?_ uX.out _; (with_reducible repeat first | apply bN | apply bD | apply bA); refine zV ?_ uX.out _; (with_reducible repeat first | apply bN | apply bD | apply bA); refine zV ?_ uX.out _; (with_reducible repeat first | apply bN | apply bD | apply bA); exact zAQ.out⟩, ⟨eG HB.out⟩⟩
     · rw [if_neg c12] at H; exact absurd H (by simp)
    · rw [if_neg c11] at H; exact absurd H (by simp)
   · rw [if_neg c10] at H; have c10b0 : decide (x15_1 < (l0_1.length : Int)) = false := decide_eq_false c10; clear c10; simp only [Option.some.injEq, Prod.mk.injEq] at H; obtain ⟨rfl, rfl, rfl, rfl⟩ := H; have hnb33 := zMA.out; have hnc33 := zEE.out; have hnb34 := zQZ.out; have hnc34 := zGE.out; have zUH : wr.cell? ⟨zET, 0, none⟩ = some (.int .i64 kX) := (zC zAQ.out 0).trans rfl; have zUG : wr.cell? ⟨zET, 1, none⟩ = some (.int .i64 kW) := (zC zAQ.out 1).trans rfl; have zUF : wr.cell? ⟨zET, 2, none⟩ = some (.int .i64 kV) := (zC zAQ.out 2).trans rfl; have zTF := zB zAQ.out 0; have zTE := zB zAQ.out 1; have zTD := zB zAQ.out 2; have hnb36 := zRA.out; have hnc36 := zRB.out; have wAA : wr.cell? ⟨zFO, 0, none⟩ = some (.int .i64 0) := (zC zAR.out 0).trans rfl; have zZZ : wr.cell? ⟨zFO, 1, none⟩ = some (.int .i64 0) := (zC zAR.out 1).trans rfl; have hcz37_2 : wr.cell? ⟨zFO, 2, none⟩ = some (.int .i64 0) := (zC zAR.out 2).trans rfl; have zZG := zB zAR.out 0; have zZF := zB zAR.out 1; have hfz37_2 := zB zAR.out 2; go_wp2; refine bodyPost_ret (jE rfl _ _ zFO 26 #[.int .i64 kX, .int .i64 kW, .int .i64 kV] (0, 0) _ rfl (by (with_reducible repeat first | apply bN | apply bD | apply bA); refine wE (cs := #[.int .i64 kX, .int .i64 kW, .int .i64 0]) ?_ 2 _ rfl; (with_reducible repeat first | apply bN | apply bD | apply bA); refine wE (cs := #[.int .i64 kX, .int .i64 0, .int .i64 0]) ?_ 1 _ rfl; (with_reducible repeat first | apply bN | apply bD | apply bA); refine wE (cs := #[.int .i64 0, .int .i64 0, .int .i64 0]) ?_ 0 _ rfl; (with_reducible repeat first | apply bN | apply bD | apply bA); exact zAR.out) Tryz.underlying26 rfl (by kernel_rfl)) rfl ?_; exact ⟨by first | rfl | (simp [zN, zM] <;> rfl) | (simp [*, zN, zM] <;> rfl), eG HB.out⟩
def yF.j0 : Nat → Int → Int → Bool → Int → List (S26) → Option (Int × Int × Int × Int)
 | 0, _, _, _, _, _ => none
 | k + 1, x1, x2, x15, x141000, x141001 => if x15 = true then (some (0, 0, 0, 2)) else ((qQ.f k x141000 x141001 x1 x2).bind fun bt145 => (if bt145.2.2.2 = true then (some (bt145.1, bt145.2.1, bt145.2.2.1, 0)) else (some (0, 0, 0, 7))))
def yF.f (k : Nat) (a0_0 : Int) (l0_1 : List (S26)) (a1 : Int) (a2 : Int) : Option (Int × Int × Int × Int) := (vJ.f k a0_0 l0_1).bind fun t142 => (if t142 = true then ((zR.f a1 1 9).bind fun t143 => (if t143 = true then ((zR.f a2 0 100000).bind fun t144 => (yF.j0 k a1 a2 (!t144) a0_0 l0_1)) else (yF.j0 k a1 a2 true a0_0 l0_1))) else (some (0, 0, 0, 1)))
set_option maxHeartbeats 8000000 in
set_option maxRecDepth 100000 in
theorem yF.calls (k : Nat) (a0_0 : Int) (A0_1 : Option Addr) (c0_1 : Nat) (l0_1 : List (S26)) (a1 : Int) (a2 : Int) (r1 : Int) (r2 : Int) (r3 : Int) (r4 : Int) (w : World) (hr0_1 : Kd.C k26 w A0_1 l0_1.length l0_1) (uG : l0_1.length ≤ c0_1) (h : yF.f k a0_0 l0_1 a1 a2 = some (r1, r2, r3, r4)) :
  Calls Tryz.prog 19 #[.agg #[.int .i64 a0_0, .slice A0_1 l0_1.length c0_1], .int .i64 a1, .int .i64 a2] w fun e w' => e = .returned (.tuple #[.agg #[.int .i64 r1, .int .i64 r2, .int .i64 r3], .int .i64 r4]) ∧ Below w.heap.size w w' := by
 have hu24 := Tryz.underlying24; have hu26 := Tryz.underlying26; have HR0_1 := zA.mk hr0_1; have HC0_1 := zA.mk uG; clear hr0_1 uG; have HB := zA.mk (Below.refl w.heap.size w); have H : ((vJ.f k a0_0 l0_1).bind fun t142 => (if t142 = true then ((zR.f a1 1 9).bind fun t143 => (if t143 = true then ((zR.f a2 0 100000).bind fun t144 => (yF.j0 k a1 a2 (!t144) a0_0 l0_1)) else (yF.j0 k a1 a2 true a0_0 l0_1))) else (some (0, 0, 0, 1)))) = some (r1, r2, r3, r4) := h; clear h; replace H := Option.bind_eq_some_iff.mp H; obtain ⟨t142, A40, H⟩ := H; replace H : (if t142 = true then ((zR.f a1 1 9).bind fun t143 => (if t143 = true then ((zR.f a2 0 100000).bind fun t144 => (yF.j0 k a1 a2 (!t144) a0_0 l0_1)) else (yF.j0 k a1 a2 true a0_0 l0_1))) else (some (0, 0, 0, 1))) = some (r1, r2, r3, r4) := H; have A4 := zA.mk A40; clear A40; by_cases c5 : t142 = true
 ·
  subst c5; replace H : ((zR.f a1 1 9).bind fun t143 => (if t143 = true then ((zR.f a2 0 100000).bind fun t144 => (yF.j0 k a1 a2 (!t144) a0_0 l0_1)) else (yF.j0 k a1 a2 true a0_0 l0_1))) = some (r1, r2, r3, r4) := by rw [if_pos rfl] at H; exact H
  have HC6 := zA.mk H; clear H; go_enter Tryz.func19, Tryz.ntmps19
  go_upto_region 3 with (first | ((with_reducible refine wF (N := 3) rfl ?_); refine wA ?hg (N := 3) ?hd (cs := #[.int .i64 a0_0, .slice A0_1 l0_1.length c0_1]) (t := 24) ?hr ?_; (case hd => rfl); (case hg => rfl); (case hr => first | (go_simp; done) | (go_simp; rfl)); intro zDL hg w7 hbox hb; have n0_ := zA.mk (zF (eG HB.out) hb); have n1_ := zA.mk (hbox); have n2_ := zA.mk ((by rw [hg]; exact (zE (eG HB.out)) : w.heap.size ≤ zDL)); have n3_ := zA.mk ((by rw [hg]; exact (zE (eG HB.out)) : w.heap.size ≤ zDL)); clear HB; have HB := n0_; have jZ := n1_; have GW140 := n2_; have GE140 := n3_; have ig140_ := geI GE140; clear n0_ n1_ n2_ n3_; clear hb hbox hg) | ((with_reducible refine wF (N := 6) rfl ?_); refine wA ?hg (N := 6) ?hd (cs := #[.int .i64 0, .int .i64 0, .int .i64 0]) (t := 26) ?hr ?_; (case hd => rfl); (case hg => rfl); (case hr => first | (go_simp; done) | (go_simp; rfl)); intro zBB hg w8 hbox hb; have n0_ := zA.mk (zG (bG jZ.out) hb); have n1_ := zA.mk (zF (eG HB.out) hb); have n2_ := zA.mk (hbox); have n3_ := zA.mk ((by rw [hg]; exact (zE (eG HB.out)) : w.heap.size ≤ zBB)); have n4_ := zA.mk ((by rw [hg]; exact (zE (eG HB.out)) : w.heap.size ≤ zBB)); have n5_ := zA.mk ((by rw [hg]; exact Nat.ne_of_lt (wC (bG jZ.out)) : zDL ≠ zBB)); have n6_ := zA.mk ((by rw [hg]; exact Nat.ne_of_gt (wC (bG jZ.out)) : zBB ≠ zDL)); clear jZ; clear HB; have jZ := n0_; have HB := n1_; have jT := n2_; have GW141 := n3_; have GE141 := n4_; have ig141_ := geI GE141; have zED := n5_; have zEC := n6_; clear n0_ n1_ n2_ n3_ n4_ n5_ n6_; clear hb hbox hg; have hnb9 := zED.out; have hnc9 := zEC.out; have zCC : w8.cell? ⟨zDL, 0, none⟩ = some (.int .i64 a0_0) := (zC jZ.out 0).trans rfl; have zCB : w8.cell? ⟨zDL, 1, none⟩ = some (.slice A0_1 l0_1.length c0_1) := (zC jZ.out 1).trans rfl; have zCA := zB jZ.out 0; have zBZ := zB jZ.out 1) | ((with_reducible refine zQ (f := 41) rfl ?_); refine vB (some 12) rfl rfl Tryz.func41 (by kernel_rfl) rfl #[.agg #[.int .i64 a0_0, .slice A0_1 l0_1.length c0_1]] rfl (by (try simp only [List.map_toArray, List.map_cons, List.map_nil]); first | done | rfl | (simp only [List.length_drop, List.length_take]; rfl)) ?_; (with_reducible refine (vJ.calls k a0_0 _ _ l0_1 true _ ?side1 ?side2 A4.out).mono ?_); (case side1 => repeat (first | exact (Kd.qW HR0_1.out HB.out) | (with_reducible refine Kd.vZ ?_ _) | (with_reducible refine Kd.vY ?_ _) | (with_reducible refine Kd.qU ?_))); (case side2 => exact HC0_1.out); rintro e w11 ⟨rfl, hb⟩; refine ⟨_, rfl, ?_⟩; have n0_ := zA.mk (zG (bG jZ.out) hb); have n1_ := zA.mk (zG (bG jT.out) hb); have n2_ := zA.mk (zF (eG HB.out) hb); clear jZ; clear jT; clear HB; have jZ := n0_; have jT := n1_; have HB := n2_; clear n0_ n1_ n2_; (try clear hb); (try clear hb2); (try clear hk); (try clear hi)))
  (try simp only [Act.put, sIA, sC0, sCS])
  go_cut [15] (fun v15 wc => ∃ (kq : Nat) (x15_5 : Bool), v15 = .bool x15_5 ∧ zA (yF.j0 kq a1 a2 x15_5 a0_0 l0_1 = some (r1, r2, r3, r4)) ∧ zA (kq ≤ k) ∧ zA (wc.heap[zDL]? = some (.cells #[.int .i64 a0_0, (.slice A0_1 l0_1.length c0_1)] 24 (0, 0))) ∧ zA (wc.heap[zBB]? = some (.cells #[.int .i64 0, .int .i64 0, .int .i64 0] 26 (0, 0))) ∧ zA (Below w.heap.size w wc))
  case first =>
   have H := HC6.out; clear HC6; replace H := Option.bind_eq_some_iff.mp H; obtain ⟨t143, A120, H⟩ := H; replace H : (if t143 = true then ((zR.f a2 0 100000).bind fun t144 => (yF.j0 k a1 a2 (!t144) a0_0 l0_1)) else (yF.j0 k a1 a2 true a0_0 l0_1)) = some (r1, r2, r3, r4) := H; have A12 := zA.mk A120; clear A120; by_cases c13 : t143 = true
   ·
    subst c13; replace H : ((zR.f a2 0 100000).bind fun t144 => (yF.j0 k a1 a2 (!t144) a0_0 l0_1)) = some (r1, r2, r3, r4) := by rw [if_pos rfl] at H; exact H
    replace H := Option.bind_eq_some_iff.mp H; obtain ⟨t144, A140, H⟩ := H; replace H : (yF.j0 k a1 a2 (!t144) a0_0 l0_1) = some (r1, r2, r3, r4) := H; have A14 := zA.mk A140; clear A140; have H' := zA.mk H; clear H; go_wp2_with (first | ((with_reducible refine zQ (f := 35) rfl ?_); refine vB (some 17) rfl rfl Tryz.func35 (by kernel_rfl) rfl #[.int .i64 a1, .int .i64 1, .int .i64 9] rfl (by (try simp only [List.map_toArray, List.map_cons, List.map_nil]); first | done | rfl | (simp only [List.length_drop, List.length_take]; rfl)) ?_; (with_reducible refine (zR.calls a1 1 9 true _ A12.out).mono ?_); rintro e w' ⟨rfl, ⟨nd, rfl⟩⟩; refine ⟨_, rfl, ?_⟩) | (go_at_call 35; (with_reducible refine (zR.calls a2 0 100000 t144 _ A14.out).mono ?_); rintro e w' ⟨rfl, ⟨nd, rfl⟩⟩))
    go_meet
    case rel => exact ⟨_, (!t144), (by first | rfl | (simp; done) | (simp [*]; done)), H', ⟨by first | omega | exact Nat.le_refl _⟩, ⟨by (with_reducible repeat first | apply bN | apply bD | apply bA); exact jZ.out⟩, ⟨by (with_reducible repeat first | apply bN | apply bD | apply bA); exact jT.out⟩, ⟨eG HB.out⟩⟩
   ·
    replace c13 := Bool.eq_false_iff.mpr c13; subst c13; replace H : (yF.j0 k a1 a2 true a0_0 l0_1) = some (r1, r2, r3, r4) := by rw [if_neg (show ¬ (false = true) by decide)] at H; exact H
    have H' := zA.mk H; clear H; go_wp2_with (first | ((with_reducible refine zQ (f := 35) rfl ?_); refine vB (some 17) rfl rfl Tryz.func35 (by kernel_rfl) rfl #[.int .i64 a1, .int .i64 1, .int .i64 9] rfl (by (try simp only [List.map_toArray, List.map_cons, List.map_nil]); first | done | rfl | (simp only [List.length_drop, List.length_take]; rfl)) ?_; (with_reducible refine (zR.calls a1 1 9 false _ A12.out).mono ?_); rintro e w' ⟨rfl, ⟨nd, rfl⟩⟩; refine ⟨_, rfl, ?_⟩))
    go_meet
    case rel => exact ⟨_, (true), (by first | rfl | (simp; done) | (simp [*]; done)), H', ⟨by first | omega | exact Nat.le_refl _⟩, ⟨by (with_reducible repeat first | apply bN | apply bD | apply bA); exact jZ.out⟩, ⟨by (with_reducible repeat first | apply bN | apply bD | apply bA); exact jT.out⟩, ⟨eG HB.out⟩⟩
  case rest =>
   clear HC6; repeat first | clear c1 | clear p2 | clear c3 | clear c4 | clear c5 | clear c9 | clear c13 | clear zCC | clear zCB | clear zCA | clear zBZ
   obtain ⟨kq, x15_5, rfl, HA, HJ5, jZ, jT, HB⟩ := hcut
   cases kq with
   | zero => exact absurd HA.out (by simp [yF.j0])
   | succ kj5 =>
    have H := HA.out; clear HA; simp only [yF.j0] at H; by_cases c15 : x15_5 = true
    ·
     subst c15; replace H : (some (0, 0, 0, 2)) = some (r1, r2, r3, r4) := by rw [if_pos rfl] at H; exact H
     simp only [Option.some.injEq, Prod.mk.injEq] at H; obtain ⟨rfl, rfl, rfl, rfl⟩ := H; have hnb16 := zEC.out; have hnc16 := zED.out; have zUM : wc.cell? ⟨zBB, 0, none⟩ = some (.int .i64 0) := (zC jT.out 0).trans rfl; have zUL : wc.cell? ⟨zBB, 1, none⟩ = some (.int .i64 0) := (zC jT.out 1).trans rfl; have hcz17_2 : wc.cell? ⟨zBB, 2, none⟩ = some (.int .i64 0) := (zC jT.out 2).trans rfl; have zTK := zB jT.out 0; have zTJ := zB jT.out 1; have hfz17_2 := zB jT.out 2; go_wp2; refine bodyPost_ret (jE rfl _ _ zBB 26 #[.int .i64 0, .int .i64 0, .int .i64 0] (0, 0) _ rfl (by (with_reducible repeat first | apply bN | apply bD | apply bA); refine wE (cs := #[.int .i64 0, .int .i64 0, .int .i64 0]) ?_ 2 _ rfl; (with_reducible repeat first | apply bN | apply bD | apply bA); refine wE (cs := #[.int .i64 0, .int .i64 0, .int .i64 0]) ?_ 1 _ rfl; (with_reducible repeat first | apply bN | apply bD | apply bA); refine wE (cs := #[.int .i64 0, .int .i64 0, .int .i64 0]) ?_ 0 _ rfl; (with_reducible repeat first | apply bN | apply bD | apply bA); exact jT.out) Tryz.underlying26 rfl (by kernel_rfl)) rfl ?_; exact ⟨by first | rfl | (simp [zN, zM] <;> rfl) | (simp [*, zN, zM] <;> rfl), eG HB.out⟩
    ·
     replace c15 := Bool.eq_false_iff.mpr c15; subst c15; replace H : ((qQ.f kj5 a0_0 l0_1 a1 a2).bind fun bt145 => (if bt145.2.2.2 = true then (some (bt145.1, bt145.2.1, bt145.2.2.1, 0)) else (some (0, 0, 0, 7)))) = some (r1, r2, r3, r4) := by rw [if_neg (show ¬ (false = true) by decide)] at H; exact H
     replace H := Option.bind_eq_some_iff.mp H; obtain ⟨⟨t145, t146, t147, t148⟩, A180, H⟩ := H; replace H : (if t148 = true then (some (t145, t146, t147, 0)) else (some (0, 0, 0, 7))) = some (r1, r2, r3, r4) := H; have A18 := zA.mk A180; clear A180; by_cases c19 : t148 = true
     ·
      subst c19; replace H : (some (t145, t146, t147, 0)) = some (r1, r2, r3, r4) := by rw [if_pos rfl] at H; exact H
      simp only [Option.some.injEq, Prod.mk.injEq] at H; obtain ⟨rfl, rfl, rfl, rfl⟩ := H; have hnb20 := zED.out; have hnc20 := zEC.out; have wAM : wc.cell? ⟨zDL, 0, none⟩ = some (.int .i64 a0_0) := (zC jZ.out 0).trans rfl; have wAL : wc.cell? ⟨zDL, 1, none⟩ = some (.slice A0_1 l0_1.length c0_1) := (zC jZ.out 1).trans rfl; have zZS := zB jZ.out 0; have zZR := zB jZ.out 1; go_wp2_with (first | ((with_reducible refine zQ (f := 45) rfl ?_); refine vB (some 29) rfl rfl Tryz.func45 (by kernel_rfl) rfl #[.agg #[.int .i64 a0_0, .slice A0_1 l0_1.length c0_1], .int .i64 a1, .int .i64 a2] rfl (by (try simp only [List.map_toArray, List.map_cons, List.map_nil]); first | done | rfl | (simp only [List.length_drop, List.length_take]; rfl)) ?_; (with_reducible refine (qQ.calls kj5 a0_0 _ _ l0_1 a1 a2 t145 t146 t147 true _ ?side1 ?side2 A18.out).mono ?_); (case side1 => repeat (first | exact (Kd.qW HR0_1.out HB.out) | (with_reducible refine Kd.vZ ?_ _) | (with_reducible refine Kd.vY ?_ _) | (with_reducible refine Kd.qU ?_))); (case side2 => exact HC0_1.out); rintro e w22 ⟨rfl, hb⟩; refine ⟨_, rfl, ?_⟩; have n0_ := zA.mk (zG (bG jZ.out) hb); have n1_ := zA.mk (zG (bG jT.out) hb); have n2_ := zA.mk (zF (eG HB.out) hb); clear jZ; clear jT; clear HB; have jZ := n0_; have jT := n1_; have HB := n2_; clear n0_ n1_ n2_; (try clear hb); (try clear hb2); (try clear hk); (try clear hi)) | ((with_reducible refine wF (N := 8) rfl ?_); refine wA ?hg (N := 8) ?hd (cs := #[.int .i64 0, .int .i64 0, .int .i64 0]) (t := 26) ?hr ?_; (case hd => rfl); (case hg => rfl); (case hr => first | (go_simp; done) | (go_simp; rfl)); intro zES hg w23 hbox hb; have n0_ := zA.mk (zG (bG jZ.out) hb); have n1_ := zA.mk (zG (bG jT.out) hb); have n2_ := zA.mk (zF (eG HB.out) hb); have n3_ := zA.mk (hbox); have n4_ := zA.mk ((by rw [hg]; exact (zE (eG HB.out)) : w.heap.size ≤ zES)); have n5_ := zA.mk ((by rw [hg]; exact (zE (eG HB.out)) : w.heap.size ≤ zES)); have n6_ := zA.mk ((by rw [hg]; exact Nat.ne_of_lt (wC (bG jZ.out)) : zDL ≠ zES)); have n7_ := zA.mk ((by rw [hg]; exact Nat.ne_of_gt (wC (bG jZ.out)) : zES ≠ zDL)); have n8_ := zA.mk ((by rw [hg]; exact Nat.ne_of_lt (wC (bG jT.out)) : zBB ≠ zES)); have n9_ := zA.mk ((by rw [hg]; exact Nat.ne_of_gt (wC (bG jT.out)) : zES ≠ zBB)); clear jZ; clear jT; clear HB; have jZ := n0_; have jT := n1_; have HB := n2_; have zJR := n3_; have GW149 := n4_; have GE149 := n5_; have ig149_ := geI GE149; have zLZ := n6_; have zLY := n7_; have zBG := n8_; have zLX := n9_; clear n0_ n1_ n2_ n3_ n4_ n5_ n6_ n7_ n8_ n9_; clear hb hbox hg; have hnb24 := zLY.out; have hnc24 := zLZ.out; have hnb25 := zLX.out; have hnc25 := zBG.out; have hcz26_0 : w23.cell? ⟨zES, 0, none⟩ = some (.int .i64 0) := (zC zJR.out 0).trans rfl; have hcz26_1 : w23.cell? ⟨zES, 1, none⟩ = some (.int .i64 0) := (zC zJR.out 1).trans rfl; have hcz26_2 : w23.cell? ⟨zES, 2, none⟩ = some (.int .i64 0) := (zC zJR.out 2).trans rfl; have hfz26_0 := zB zJR.out 0; have hfz26_1 := zB zJR.out 1; have hfz26_2 := zB zJR.out 2; have wAH : w23.cell? ⟨zBB, 0, none⟩ = some (.int .i64 0) := (zC jT.out 0).trans rfl; have wAG : w23.cell? ⟨zBB, 1, none⟩ = some (.int .i64 0) := (zC jT.out 1).trans rfl; have wAF : w23.cell? ⟨zBB, 2, none⟩ = some (.int .i64 0) := (zC jT.out 2).trans rfl; have zZN := zB jT.out 0; have zZM := zB jT.out 1; have zZL := zB jT.out 2))
      refine bodyPost_ret (jE rfl _ _ zBB 26 #[.int .i64 t145, .int .i64 t146, .int .i64 t147] (0, 0) _ rfl (by (with_reducible repeat first | apply bN | apply bD | apply bA); refine wE (cs := #[.int .i64 t145, .int .i64 t146, .int .i64 0]) ?_ 2 _ rfl; (with_reducible repeat first | apply bN | apply bD | apply bA); refine wE (cs := #[.int .i64 t145, .int .i64 0, .int .i64 0]) ?_ 1 _ rfl; (with_reducible repeat first | apply bN | apply bD | apply bA); refine wE (cs := #[.int .i64 0, .int .i64 0, .int .i64 0]) ?_ 0 _ rfl; (with_reducible repeat first | apply bN | apply bD | apply bA); refine zV ?_ zBG.out _; (with_reducible repeat first | apply bN | apply bD | apply bA); refine zV ?_ zBG.out _; (with_reducible repeat first | apply bN | apply bD | apply bA); refine zV ?_ zBG.out _; (with_reducible repeat first | apply bN | apply bD | apply bA); exact jT.out) Tryz.underlying26 rfl (by kernel_rfl)) rfl ?_; exact ⟨by first | rfl | (simp [zN, zM] <;> rfl) | (simp [*, zN, zM] <;> rfl), eG HB.out⟩
     ·
      replace c19 := Bool.eq_false_iff.mpr c19; subst c19; replace H : (some (0, 0, 0, 7)) = some (r1, r2, r3, r4) := by rw [if_neg (show ¬ (false = true) by decide)] at H; exact H
      simp only [Option.some.injEq, Prod.mk.injEq] at H; obtain ⟨rfl, rfl, rfl, rfl⟩ := H; have hnb28 := zED.out; have hnc28 := zEC.out; have wAE : wc.cell? ⟨zDL, 0, none⟩ = some (.int .i64 a0_0) := (zC jZ.out 0).trans rfl; have wAD : wc.cell? ⟨zDL, 1, none⟩ = some (.slice A0_1 l0_1.length c0_1) := (zC jZ.out 1).trans rfl; have zZK := zB jZ.out 0; have zZJ := zB jZ.out 1; go_wp2_with (first | ((with_reducible refine zQ (f := 45) rfl ?_); refine vB (some 29) rfl rfl Tryz.func45 (by kernel_rfl) rfl #[.agg #[.int .i64 a0_0, .slice A0_1 l0_1.length c0_1], .int .i64 a1, .int .i64 a2] rfl (by (try simp only [List.map_toArray, List.map_cons, List.map_nil]); first | done | rfl | (simp only [List.length_drop, List.length_take]; rfl)) ?_; (with_reducible refine (qQ.calls kj5 a0_0 _ _ l0_1 a1 a2 t145 t146 t147 false _ ?side1 ?side2 A18.out).mono ?_); (case side1 => repeat (first | exact (Kd.qW HR0_1.out HB.out) | (with_reducible refine Kd.vZ ?_ _) | (with_reducible refine Kd.vY ?_ _) | (with_reducible refine Kd.qU ?_))); (case side2 => exact HC0_1.out); rintro e w30 ⟨rfl, hb⟩; refine ⟨_, rfl, ?_⟩; have n0_ := zA.mk (zG (bG jZ.out) hb); have n1_ := zA.mk (zG (bG jT.out) hb); have n2_ := zA.mk (zF (eG HB.out) hb); clear jZ; clear jT; clear HB; have jZ := n0_; have jT := n1_; have HB := n2_; clear n0_ n1_ n2_; (try clear hb); (try clear hb2); (try clear hk); (try clear hi)) | ((with_reducible refine wF (N := 8) rfl ?_); refine wA ?hg (N := 8) ?hd (cs := #[.int .i64 0, .int .i64 0, .int .i64 0]) (t := 26) ?hr ?_; (case hd => rfl); (case hg => rfl); (case hr => first | (go_simp; done) | (go_simp; rfl)); intro zES hg w31 hbox hb; have n0_ := zA.mk (zG (bG jZ.out) hb); have n1_ := zA.mk (zG (bG jT.out) hb); have n2_ := zA.mk (zF (eG HB.out) hb); have n3_ := zA.mk (hbox); have n4_ := zA.mk ((by rw [hg]; exact (zE (eG HB.out)) : w.heap.size ≤ zES)); have n5_ := zA.mk ((by rw [hg]; exact (zE (eG HB.out)) : w.heap.size ≤ zES)); have n6_ := zA.mk ((by rw [hg]; exact Nat.ne_of_lt (wC (bG jZ.out)) : zDL ≠ zES)); have n7_ := zA.mk ((by rw [hg]; exact Nat.ne_of_gt (wC (bG jZ.out)) : zES ≠ zDL)); have n8_ := zA.mk ((by rw [hg]; exact Nat.ne_of_lt (wC (bG jT.out)) : zBB ≠ zES)); have n9_ := zA.mk ((by rw [hg]; exact Nat.ne_of_gt (wC (bG jT.out)) : zES ≠ zBB)); clear jZ; clear jT; clear HB; have jZ := n0_; have jT := n1_; have HB := n2_; have zJR := n3_; have GW149 := n4_; have GE149 := n5_; have ig149_ := geI GE149; have zLZ := n6_; have zLY := n7_; have zBG := n8_; have zLX := n9_; clear n0_ n1_ n2_ n3_ n4_ n5_ n6_ n7_ n8_ n9_; clear hb hbox hg; have hnb32 := zLY.out; have hnc32 := zLZ.out; have hnb33 := zLX.out; have hnc33 := zBG.out; have zPI : w31.cell? ⟨zES, 0, none⟩ = some (.int .i64 0) := (zC zJR.out 0).trans rfl; have zPH : w31.cell? ⟨zES, 1, none⟩ = some (.int .i64 0) := (zC zJR.out 1).trans rfl; have hcz34_2 : w31.cell? ⟨zES, 2, none⟩ = some (.int .i64 0) := (zC zJR.out 2).trans rfl; have zOR := zB zJR.out 0; have zOQ := zB zJR.out 1; have hfz34_2 := zB zJR.out 2; have zUH : w31.cell? ⟨zBB, 0, none⟩ = some (.int .i64 0) := (zC jT.out 0).trans rfl; have zUG : w31.cell? ⟨zBB, 1, none⟩ = some (.int .i64 0) := (zC jT.out 1).trans rfl; have zUF : w31.cell? ⟨zBB, 2, none⟩ = some (.int .i64 0) := (zC jT.out 2).trans rfl; have zTF := zB jT.out 0; have zTE := zB jT.out 1; have zTD := zB jT.out 2))
      refine bodyPost_ret (jE rfl _ _ zBB 26 #[.int .i64 0, .int .i64 0, .int .i64 0] (0, 0) _ rfl (by (with_reducible repeat first | apply bN | apply bD | apply bA); refine wE (cs := #[.int .i64 0, .int .i64 0, .int .i64 0]) ?_ 2 _ rfl; (with_reducible repeat first | apply bN | apply bD | apply bA); refine wE (cs := #[.int .i64 0, .int .i64 0, .int .i64 0]) ?_ 1 _ rfl; (with_reducible repeat first | apply bN | apply bD | apply bA); refine wE (cs := #[.int .i64 0, .int .i64 0, .int .i64 0]) ?_ 0 _ rfl; (with_reducible repeat first | apply bN | apply bD | apply bA); refine zV ?_ zBG.out _; (with_reducible repeat first | apply bN | apply bD | apply bA); refine zV ?_ zBG.out _; (with_reducible repeat first | apply bN | apply bD | apply bA); refine zV ?_ zBG.out _; (with_reducible repeat first | apply bN | apply bD | apply bA); exact jT.out) Tryz.underlying26 rfl (by kernel_rfl)) rfl ?_; exact ⟨by first | rfl | (simp [zN, zM] <;> rfl) | (simp [*, zN, zM] <;> rfl), eG HB.out⟩
 ·
  replace c5 := Bool.eq_false_iff.mpr c5; subst c5; replace H : (some (0, 0, 0, 1)) = some (r1, r2, r3, r4) := by rw [if_neg (show ¬ (false = true) by decide)] at H; exact H
  simp only [Option.some.injEq, Prod.mk.injEq] at H; obtain ⟨rfl, rfl, rfl, rfl⟩ := H; go_enter Tryz.func19, Tryz.ntmps19
  go_wp2_with (first | ((with_reducible refine wF (N := 3) rfl ?_); refine wA ?hg (N := 3) ?hd (cs := #[.int .i64 a0_0, .slice A0_1 l0_1.length c0_1]) (t := 24) ?hr ?_; (case hd => rfl); (case hg => rfl); (case hr => first | (go_simp; done) | (go_simp; rfl)); intro zDL hg w36 hbox hb; have n0_ := zA.mk (zF (eG HB.out) hb); have n1_ := zA.mk (hbox); have n2_ := zA.mk ((by rw [hg]; exact (zE (eG HB.out)) : w.heap.size ≤ zDL)); have n3_ := zA.mk ((by rw [hg]; exact (zE (eG HB.out)) : w.heap.size ≤ zDL)); clear HB; have HB := n0_; have jZ := n1_; have GW140 := n2_; have GE140 := n3_; have ig140_ := geI GE140; clear n0_ n1_ n2_ n3_; clear hb hbox hg) | ((with_reducible refine wF (N := 6) rfl ?_); refine wA ?hg (N := 6) ?hd (cs := #[.int .i64 0, .int .i64 0, .int .i64 0]) (t := 26) ?hr ?_; (case hd => rfl); (case hg => rfl); (case hr => first | (go_simp; done) | (go_simp; rfl)); intro zBB hg w37 hbox hb; have n0_ := zA.mk (zG (bG jZ.out) hb); have n1_ := zA.mk (zF (eG HB.out) hb); have n2_ := zA.mk (hbox); have n3_ := zA.mk ((by rw [hg]; exact (zE (eG HB.out)) : w.heap.size ≤ zBB)); have n4_ := zA.mk ((by rw [hg]; exact (zE (eG HB.out)) : w.heap.size ≤ zBB)); have n5_ := zA.mk ((by rw [hg]; exact Nat.ne_of_lt (wC (bG jZ.out)) : zDL ≠ zBB)); have n6_ := zA.mk ((by rw [hg]; exact Nat.ne_of_gt (wC (bG jZ.out)) : zBB ≠ zDL)); clear jZ; clear HB; have jZ := n0_; have HB := n1_; have jT := n2_; have GW141 := n3_; have GE141 := n4_; have ig141_ := geI GE141; have zED := n5_; have zEC := n6_; clear n0_ n1_ n2_ n3_ n4_ n5_ n6_; clear hb hbox hg; have hnb38 := zED.out; have hnc38 := zEC.out; have zUE : w37.cell? ⟨zDL, 0, none⟩ = some (.int .i64 a0_0) := (zC jZ.out 0).trans rfl; have zUD : w37.cell? ⟨zDL, 1, none⟩ = some (.slice A0_1 l0_1.length c0_1) := (zC jZ.out 1).trans rfl; have zTC := zB jZ.out 0; have zTB := zB jZ.out 1) | ((with_reducible refine zQ (f := 41) rfl ?_); refine vB (some 12) rfl rfl Tryz.func41 (by kernel_rfl) rfl #[.agg #[.int .i64 a0_0, .slice A0_1 l0_1.length c0_1]] rfl (by (try simp only [List.map_toArray, List.map_cons, List.map_nil]); first | done | rfl | (simp only [List.length_drop, List.length_take]; rfl)) ?_; (with_reducible refine (vJ.calls k a0_0 _ _ l0_1 false _ ?side1 ?side2 A4.out).mono ?_); (case side1 => repeat (first | exact (Kd.qW HR0_1.out HB.out) | (with_reducible refine Kd.vZ ?_ _) | (with_reducible refine Kd.vY ?_ _) | (with_reducible refine Kd.qU ?_))); (case side2 => exact HC0_1.out); rintro e w40 ⟨rfl, hb⟩; refine ⟨_, rfl, ?_⟩; have n0_ := zA.mk (zG (bG jZ.out) hb); have n1_ := zA.mk (zG (bG jT.out) hb); have n2_ := zA.mk (zF (eG HB.out) hb); clear jZ; clear jT; clear HB; have jZ := n0_; have jT := n1_; have HB := n2_; clear n0_ n1_ n2_; (try clear hb); (try clear hb2); (try clear hk); (try clear hi); have hcz41_0 : w40.cell? ⟨zBB, 0, none⟩ = some (.int .i64 0) := (zC jT.out 0).trans rfl; have hcz41_1 : w40.cell? ⟨zBB, 1, none⟩ = some (.int .i64 0) := (zC jT.out 1).trans rfl; have hcz41_2 : w40.cell? ⟨zBB, 2, none⟩ = some (.int .i64 0) := (zC jT.out 2).trans rfl; have hfz41_0 := zB jT.out 0; have hfz41_1 := zB jT.out 1; have hfz41_2 := zB jT.out 2))
  refine bodyPost_ret (jE rfl _ _ zBB 26 #[.int .i64 0, .int .i64 0, .int .i64 0] (0, 0) _ rfl (by (with_reducible repeat first | apply bN | apply bD | apply bA); refine wE (cs := #[.int .i64 0, .int .i64 0, .int .i64 0]) ?_ 2 _ rfl; (with_reducible repeat first | apply bN | apply bD | apply bA); refine wE (cs := #[.int .i64 0, .int .i64 0, .int .i64 0]) ?_ 1 _ rfl; (with_reducible repeat first | apply bN | apply bD | apply bA); refine wE (cs := #[.int .i64 0, .int .i64 0, .int .i64 0]) ?_ 0 _ rfl; (with_reducible repeat first | apply bN | apply bD | apply bA); exact jT.out) Tryz.underlying26 rfl (by kernel_rfl)) rfl ?_; exact ⟨by first | rfl | (simp [zN, zM] <;> rfl) | (simp [*, zN, zM] <;> rfl), eG HB.out⟩
def vH.j0 : Nat → Bool → Option (Int)
 | 0, _ => none
 | k + 1, x13 => if x13 = true then (some 2) else (some 0)
def vH.f (k : Nat) (a0_0 : Int) (l0_1 : List (S26)) (a1 : Int) (a2 : Int) (a3 : Int) : Option (Int) := (vJ.f k a0_0 l0_1).bind fun t151 => (if t151 = true then ((zR.f a1 1 9).bind fun t152 => (if t152 = true then ((zR.f a2 0 100000).bind fun t153 => (if t153 = true then ((zR.f a3 a2 100000).bind fun t154 => (vH.j0 k (!t154))) else (vH.j0 k true))) else (vH.j0 k true))) else (some 1))
set_option maxHeartbeats 8000000 in
set_option maxRecDepth 100000 in
theorem vH.calls (k : Nat) (a0_0 : Int) (A0_1 : Option Addr) (c0_1 : Nat) (l0_1 : List (S26)) (a1 : Int) (a2 : Int) (a3 : Int) (r : Int) (w : World) (hr0_1 : Kd.C k26 w A0_1 l0_1.length l0_1) (uG : l0_1.length ≤ c0_1) (h : vH.f k a0_0 l0_1 a1 a2 a3 = some r) :
  Calls Tryz.prog 48 #[.agg #[.int .i64 a0_0, .slice A0_1 l0_1.length c0_1], .int .i64 a1, .int .i64 a2, .int .i64 a3] w fun e w' => e = .returned (.int .i64 r) ∧ Below w.heap.size w w' := by
 have hu24 := Tryz.underlying24; have HR0_1 := zA.mk hr0_1; have HC0_1 := zA.mk uG; clear hr0_1 uG; have HB := zA.mk (Below.refl w.heap.size w); have H : ((vJ.f k a0_0 l0_1).bind fun t151 => (if t151 = true then ((zR.f a1 1 9).bind fun t152 => (if t152 = true then ((zR.f a2 0 100000).bind fun t153 => (if t153 = true then ((zR.f a3 a2 100000).bind fun t154 => (vH.j0 k (!t154))) else (vH.j0 k true))) else (vH.j0 k true))) else (some 1))) = some r := h; clear h; replace H := Option.bind_eq_some_iff.mp H; obtain ⟨t151, A50, H⟩ := H; replace H : (if t151 = true then ((zR.f a1 1 9).bind fun t152 => (if t152 = true then ((zR.f a2 0 100000).bind fun t153 => (if t153 = true then ((zR.f a3 a2 100000).bind fun t154 => (vH.j0 k (!t154))) else (vH.j0 k true))) else (vH.j0 k true))) else (some 1)) = some r := H; have A5 := zA.mk A50; clear A50; by_cases c6 : t151 = true
 ·
  subst c6; replace H : ((zR.f a1 1 9).bind fun t152 => (if t152 = true then ((zR.f a2 0 100000).bind fun t153 => (if t153 = true then ((zR.f a3 a2 100000).bind fun t154 => (vH.j0 k (!t154))) else (vH.j0 k true))) else (vH.j0 k true))) = some r := by rw [if_pos rfl] at H; exact H
  have HC7 := zA.mk H; clear H; go_enter Tryz.func48, Tryz.ntmps48
  go_upto_region 3 with (first | ((with_reducible refine wF (N := 4) rfl ?_); refine wA ?hg (N := 4) ?hd (cs := #[.int .i64 a0_0, .slice A0_1 l0_1.length c0_1]) (t := 24) ?hr ?_; (case hd => rfl); (case hg => rfl); (case hr => first | (go_simp; done) | (go_simp; rfl)); intro zMJ hg w8 hbox hb; have n0_ := zA.mk (zF (eG HB.out) hb); have n1_ := zA.mk (hbox); have n2_ := zA.mk ((by rw [hg]; exact (zE (eG HB.out)) : w.heap.size ≤ zMJ)); have n3_ := zA.mk ((by rw [hg]; exact (zE (eG HB.out)) : w.heap.size ≤ zMJ)); clear HB; have HB := n0_; have zEY := n1_; have GW150 := n2_; have GE150 := n3_; have ig150_ := geI GE150; clear n0_ n1_ n2_ n3_; clear hb hbox hg; have zIN : w8.cell? ⟨zMJ, 0, none⟩ = some (.int .i64 a0_0) := (zC zEY.out 0).trans rfl; have zIM : w8.cell? ⟨zMJ, 1, none⟩ = some (.slice A0_1 l0_1.length c0_1) := (zC zEY.out 1).trans rfl; have zIJ := zB zEY.out 0; have zII := zB zEY.out 1) | ((with_reducible refine zQ (f := 41) rfl ?_); refine vB (some 11) rfl rfl Tryz.func41 (by kernel_rfl) rfl #[.agg #[.int .i64 a0_0, .slice A0_1 l0_1.length c0_1]] rfl (by (try simp only [List.map_toArray, List.map_cons, List.map_nil]); first | done | rfl | (simp only [List.length_drop, List.length_take]; rfl)) ?_; (with_reducible refine (vJ.calls k a0_0 _ _ l0_1 true _ ?side1 ?side2 A5.out).mono ?_); (case side1 => repeat (first | exact (Kd.qW HR0_1.out HB.out) | (with_reducible refine Kd.vZ ?_ _) | (with_reducible refine Kd.vY ?_ _) | (with_reducible refine Kd.qU ?_))); (case side2 => exact HC0_1.out); rintro e w10 ⟨rfl, hb⟩; refine ⟨_, rfl, ?_⟩; have n0_ := zA.mk (zG (bG zEY.out) hb); have n1_ := zA.mk (zF (eG HB.out) hb); clear zEY; clear HB; have zEY := n0_; have HB := n1_; clear n0_ n1_; (try clear hb); (try clear hb2); (try clear hk); (try clear hi)))
  (try simp only [Act.put, sIA, sC0, sCS])
  go_cut [13] (fun v13 wc => ∃ (kq : Nat) (x13_6 : Bool), v13 = .bool x13_6 ∧ zA (vH.j0 kq x13_6 = some r) ∧ zA (kq ≤ k) ∧ zA (wc.heap[zMJ]? = some (.cells #[.int .i64 a0_0, (.slice A0_1 l0_1.length c0_1)] 24 (0, 0))) ∧ zA (Below w.heap.size w wc))
  case first =>
   have H := HC7.out; clear HC7; replace H := Option.bind_eq_some_iff.mp H; obtain ⟨t152, A110, H⟩ := H; replace H : (if t152 = true then ((zR.f a2 0 100000).bind fun t153 => (if t153 = true then ((zR.f a3 a2 100000).bind fun t154 => (vH.j0 k (!t154))) else (vH.j0 k true))) else (vH.j0 k true)) = some r := H; have A11 := zA.mk A110; clear A110; by_cases c12 : t152 = true
   ·
    subst c12; replace H : ((zR.f a2 0 100000).bind fun t153 => (if t153 = true then ((zR.f a3 a2 100000).bind fun t154 => (vH.j0 k (!t154))) else (vH.j0 k true))) = some r := by rw [if_pos rfl] at H; exact H
    replace H := Option.bind_eq_some_iff.mp H; obtain ⟨t153, A130, H⟩ := H; replace H : (if t153 = true then ((zR.f a3 a2 100000).bind fun t154 => (vH.j0 k (!t154))) else (vH.j0 k true)) = some r := H; have A13 := zA.mk A130; clear A130; by_cases c14 : t153 = true
    ·
     subst c14; replace H : ((zR.f a3 a2 100000).bind fun t154 => (vH.j0 k (!t154))) = some r := by rw [if_pos rfl] at H; exact H
     replace H := Option.bind_eq_some_iff.mp H; obtain ⟨t154, A150, H⟩ := H; replace H : (vH.j0 k (!t154)) = some r := H; have A15 := zA.mk A150; clear A150; have H' := zA.mk H; clear H; go_wp2_with (first | ((with_reducible refine zQ (f := 35) rfl ?_); refine vB (some 15) rfl rfl Tryz.func35 (by kernel_rfl) rfl #[.int .i64 a1, .int .i64 1, .int .i64 9] rfl (by (try simp only [List.map_toArray, List.map_cons, List.map_nil]); first | done | rfl | (simp only [List.length_drop, List.length_take]; rfl)) ?_; (with_reducible refine (zR.calls a1 1 9 true _ A11.out).mono ?_); rintro e w' ⟨rfl, ⟨nd, rfl⟩⟩; refine ⟨_, rfl, ?_⟩) | (go_at_call 35; (with_reducible refine (zR.calls a2 0 100000 true _ A13.out).mono ?_); rintro e w' ⟨rfl, ⟨nd, rfl⟩⟩) | (go_at_call 35; (with_reducible refine (zR.calls a3 a2 100000 t154 _ A15.out).mono ?_); rintro e w' ⟨rfl, ⟨nd, rfl⟩⟩))
     go_meet
     case rel => exact ⟨_, (!t154), (by first | rfl | (simp; done) | (simp [*]; done)), H', ⟨by first | omega | exact Nat.le_refl _⟩, ⟨by (with_reducible repeat first | apply bN | apply bD | apply bA); exact zEY.out⟩, ⟨eG HB.out⟩⟩
    ·
     replace c14 := Bool.eq_false_iff.mpr c14; subst c14; replace H : (vH.j0 k true) = some r := by rw [if_neg (show ¬ (false = true) by decide)] at H; exact H
     have H' := zA.mk H; clear H; go_wp2_with (first | ((with_reducible refine zQ (f := 35) rfl ?_); refine vB (some 15) rfl rfl Tryz.func35 (by kernel_rfl) rfl #[.int .i64 a1, .int .i64 1, .int .i64 9] rfl (by (try simp only [List.map_toArray, List.map_cons, List.map_nil]); first | done | rfl | (simp only [List.length_drop, List.length_take]; rfl)) ?_; (with_reducible refine (zR.calls a1 1 9 true _ A11.out).mono ?_); rintro e w' ⟨rfl, ⟨nd, rfl⟩⟩; refine ⟨_, rfl, ?_⟩) | (go_at_call 35; (with_reducible refine (zR.calls a2 0 100000 false _ A13.out).mono ?_); rintro e w' ⟨rfl, ⟨nd, rfl⟩⟩))
     go_meet
     case rel => exact ⟨_, (true), (by first | rfl | (simp; done) | (simp [*]; done)), H', ⟨by first | omega | exact Nat.le_refl _⟩, ⟨by (with_reducible repeat first | apply bN | apply bD | apply bA); exact zEY.out⟩, ⟨eG HB.out⟩⟩
   ·
    replace c12 := Bool.eq_false_iff.mpr c12; subst c12; replace H : (vH.j0 k true) = some r := by rw [if_neg (show ¬ (false = true) by decide)] at H; exact H
    have H' := zA.mk H; clear H; go_wp2_with (first | ((with_reducible refine zQ (f := 35) rfl ?_); refine vB (some 15) rfl rfl Tryz.func35 (by kernel_rfl) rfl #[.int .i64 a1, .int .i64 1, .int .i64 9] rfl (by (try simp only [List.map_toArray, List.map_cons, List.map_nil]); first | done | rfl | (simp only [List.length_drop, List.length_take]; rfl)) ?_; (with_reducible refine (zR.calls a1 1 9 false _ A11.out).mono ?_); rintro e w' ⟨rfl, ⟨nd, rfl⟩⟩; refine ⟨_, rfl, ?_⟩))
    go_meet
    case rel => exact ⟨_, (true), (by first | rfl | (simp; done) | (simp [*]; done)), H', ⟨by first | omega | exact Nat.le_refl _⟩, ⟨by (with_reducible repeat first | apply bN | apply bD | apply bA); exact zEY.out⟩, ⟨eG HB.out⟩⟩
  case rest =>
   clear HC7; repeat first | clear c1 | clear p2 | clear c3 | clear c4 | clear c6 | clear c12 | clear c14 | clear zIN | clear zIM | clear zIJ | clear zII
   obtain ⟨kq, x13_6, rfl, HA, HJ6, zEY, HB⟩ := hcut
   cases kq with
   | zero => exact absurd HA.out (by simp [vH.j0])
   | succ kj6 =>
    have H := HA.out; clear HA; simp only [vH.j0] at H; by_cases c16 : x13_6 = true
    ·
     subst c16; replace H : (some 2) = some r := by rw [if_pos rfl] at H; exact H
     obtain rfl := Option.some.inj H; go_wp2; go_ret
     exact ⟨by first | rfl | (simp [zN, zM] <;> rfl) | (simp [*, zN, zM] <;> rfl), eG HB.out⟩
    ·
     replace c16 := Bool.eq_false_iff.mpr c16; subst c16; replace H : (some 0) = some r := by rw [if_neg (show ¬ (false = true) by decide)] at H; exact H
     obtain rfl := Option.some.inj H; go_wp2; go_ret
     exact ⟨by first | rfl | (simp [zN, zM] <;> rfl) | (simp [*, zN, zM] <;> rfl), eG HB.out⟩
 ·
  replace c6 := Bool.eq_false_iff.mpr c6; subst c6; replace H : (some 1) = some r := by rw [if_neg (show ¬ (false = true) by decide)] at H; exact H
  obtain rfl := Option.some.inj H; go_enter Tryz.func48, Tryz.ntmps48
  go_wp2_with (first | ((with_reducible refine wF (N := 4) rfl ?_); refine wA ?hg (N := 4) ?hd (cs := #[.int .i64 a0_0, .slice A0_1 l0_1.length c0_1]) (t := 24) ?hr ?_; (case hd => rfl); (case hg => rfl); (case hr => first | (go_simp; done) | (go_simp; rfl)); intro zMJ hg w17 hbox hb; have n0_ := zA.mk (zF (eG HB.out) hb); have n1_ := zA.mk (hbox); have n2_ := zA.mk ((by rw [hg]; exact (zE (eG HB.out)) : w.heap.size ≤ zMJ)); have n3_ := zA.mk ((by rw [hg]; exact (zE (eG HB.out)) : w.heap.size ≤ zMJ)); clear HB; have HB := n0_; have zEY := n1_; have GW150 := n2_; have GE150 := n3_; have ig150_ := geI GE150; clear n0_ n1_ n2_ n3_; clear hb hbox hg; have zHL : w17.cell? ⟨zMJ, 0, none⟩ = some (.int .i64 a0_0) := (zC zEY.out 0).trans rfl; have zHK : w17.cell? ⟨zMJ, 1, none⟩ = some (.slice A0_1 l0_1.length c0_1) := (zC zEY.out 1).trans rfl; have zHF := zB zEY.out 0; have zHE := zB zEY.out 1) | ((with_reducible refine zQ (f := 41) rfl ?_); refine vB (some 11) rfl rfl Tryz.func41 (by kernel_rfl) rfl #[.agg #[.int .i64 a0_0, .slice A0_1 l0_1.length c0_1]] rfl (by (try simp only [List.map_toArray, List.map_cons, List.map_nil]); first | done | rfl | (simp only [List.length_drop, List.length_take]; rfl)) ?_; (with_reducible refine (vJ.calls k a0_0 _ _ l0_1 false _ ?side1 ?side2 A5.out).mono ?_); (case side1 => repeat (first | exact (Kd.qW HR0_1.out HB.out) | (with_reducible refine Kd.vZ ?_ _) | (with_reducible refine Kd.vY ?_ _) | (with_reducible refine Kd.qU ?_))); (case side2 => exact HC0_1.out); rintro e w19 ⟨rfl, hb⟩; refine ⟨_, rfl, ?_⟩; have n0_ := zA.mk (zG (bG zEY.out) hb); have n1_ := zA.mk (zF (eG HB.out) hb); clear zEY; clear HB; have zEY := n0_; have HB := n1_; clear n0_ n1_; (try clear hb); (try clear hb2); (try clear hk); (try clear hi)))
  go_ret
  exact ⟨by first | rfl | (simp [zN, zM] <;> rfl) | (simp [*, zN, zM] <;> rfl), eG HB.out⟩
end Go.Proofs.YtholbmidciapdaaGreatDoor.Pr
namespace Go.Proofs
open Go.Shelf
def Tryz.zKP : Go.Shelf.Ren := ⟨fun | 169 => 54 | n => n, fun | 70 => 73 | 9 => 9 | 0 => 0 | 72 => 76 | 37 => 74 | 127 => 101 | 3 => 3 | 5 => 5 | n => n, fun | n => n⟩
theorem Tryz.lays169 : Go.Proofs.Lays.n169 Tryz.prog Tryz.zKP := {
  mixed := by kernel_rfl
  f169 := Tryz.func54.trans (congrArg some (by kernel_rfl))
  t0 := Tryz.underlying0
  a0 := Tryz.isAgg0
  z0 := Tryz.sizeOf0
  v0 := Tryz.zeroValue0
  t3 := Tryz.underlying3
  a3 := Tryz.isAgg3
  z3 := Tryz.sizeOf3
  v3 := Tryz.zeroValue3
  t9 := Tryz.underlying9
  a9 := Tryz.isAgg9
  z9 := Tryz.sizeOf9
  v9 := Tryz.zeroValue9
  t37 := Tryz.underlying74
  a37 := Tryz.isAgg74
  z37 := Tryz.sizeOf74
  v37 := Tryz.zeroValue74
  t70 := Tryz.underlying73
  a70 := Tryz.isAgg73
  z70 := Tryz.sizeOf73
  v70 := Tryz.zeroValue73
  t72 := Tryz.underlying76
  a72 := Tryz.isAgg76
  z72 := Tryz.sizeOf76
  v72 := Tryz.zeroValue76
  t127 := Tryz.underlying101
  a127 := Tryz.isAgg101
  z127 := Tryz.sizeOf101
  v127 := Tryz.zeroValue101 }
theorem Tryz.zJP : Builder.Extra Tryz.prog Tryz.zKP := {
  sizeBuilder := by kernel_rfl
  liesBuilder := by kernel_rfl
  t5 := Tryz.underlying5
  a5 := Tryz.isAgg5
  z5 := Tryz.sizeOf5
  v5 := Tryz.zeroValue5
  infoByte := by kernel_rfl
  cellsByte := by kernel_rfl
  sizeByte := by kernel_rfl
  neB5 := by decide }
def Tryz.zSB : Go.Shelf.Ren := ⟨fun | 160 => 82 | 232 => 94 | 231 => 93 | 227 => 95 | 234 => 97 | 233 => 96 | 236 => 99 | 235 => 98 | 228 => 114 | 271 => 116 | 151 => 115 | 197 => 112 | 120 => 128 | 152 => 127 | 260 => 126 | 137 => 132 | 119 => 133 | 224 => 109 | 225 => 108 | 217 => 107 | 266 => 124 | n => n, fun | 9 => 9 | 4 => 4 | 3 => 3 | 5 => 5 | 117 => 123 | 116 => 122 | 0 => 0 | 124 => 126 | 21 => 21 | 105 => 136 | 46 => 96 | 119 => 158 | 139 => 161 | 138 => 160 | n => n, fun | 3 => 7 | 4 => 8 | n => n⟩
theorem Tryz.lays160 : Go.Proofs.Lays.n160 Tryz.prog Tryz.zSB := {
  mixed := by kernel_rfl
  f119 := Tryz.func133.trans (congrArg some (by kernel_rfl))
  f120 := Tryz.func128.trans (congrArg some (by kernel_rfl))
  f137 := Tryz.func132.trans (congrArg some (by kernel_rfl))
  f151 := Tryz.func115.trans (congrArg some (by kernel_rfl))
  f152 := Tryz.func127.trans (congrArg some (by kernel_rfl))
  f160 := Tryz.func82.trans (congrArg some (by kernel_rfl))
  f197 := Tryz.func112.trans (congrArg some (by kernel_rfl))
  f217 := Tryz.func107.trans (congrArg some (by kernel_rfl))
  f224 := Tryz.func109.trans (congrArg some (by kernel_rfl))
  f225 := Tryz.func108.trans (congrArg some (by kernel_rfl))
  f227 := Tryz.func95.trans (congrArg some (by kernel_rfl))
  f228 := Tryz.func114.trans (congrArg some (by kernel_rfl))
  f231 := Tryz.func93.trans (congrArg some (by kernel_rfl))
  f232 := Tryz.func94.trans (congrArg some (by kernel_rfl))
  f233 := Tryz.func96.trans (congrArg some (by kernel_rfl))
  f234 := Tryz.func97.trans (congrArg some (by kernel_rfl))
  f235 := Tryz.func98.trans (congrArg some (by kernel_rfl))
  f236 := Tryz.func99.trans (congrArg some (by kernel_rfl))
  f260 := Tryz.func126.trans (congrArg some (by kernel_rfl))
  f266 := Tryz.func124.trans (congrArg some (by kernel_rfl))
  f271 := Tryz.func116.trans (congrArg some (by kernel_rfl))
  t0 := Tryz.underlying0
  a0 := Tryz.isAgg0
  z0 := Tryz.sizeOf0
  v0 := Tryz.zeroValue0
  t3 := Tryz.underlying3
  a3 := Tryz.isAgg3
  z3 := Tryz.sizeOf3
  v3 := Tryz.zeroValue3
  t4 := Tryz.underlying4
  a4 := Tryz.isAgg4
  z4 := Tryz.sizeOf4
  v4 := Tryz.zeroValue4
  t5 := Tryz.underlying5
  a5 := Tryz.isAgg5
  z5 := Tryz.sizeOf5
  v5 := Tryz.zeroValue5
  t9 := Tryz.underlying9
  a9 := Tryz.isAgg9
  z9 := Tryz.sizeOf9
  v9 := Tryz.zeroValue9
  t21 := Tryz.underlying21
  a21 := Tryz.isAgg21
  z21 := Tryz.sizeOf21
  v21 := Tryz.zeroValue21
  t46 := Tryz.underlying96
  a46 := Tryz.isAgg96
  z46 := Tryz.sizeOf96
  v46 := Tryz.zeroValue96
  t105 := Tryz.underlying136
  a105 := Tryz.isAgg136
  z105 := Tryz.sizeOf136
  v105 := Tryz.zeroValue136
  t116 := Tryz.underlying122
  a116 := Tryz.isAgg122
  z116 := Tryz.sizeOf122
  t117 := Tryz.underlying123
  a117 := Tryz.isAgg123
  z117 := Tryz.sizeOf123
  v117 := Tryz.zeroValue123
  t119 := Tryz.underlying158
  a119 := Tryz.isAgg158
  z119 := Tryz.sizeOf158
  t124 := Tryz.underlying126
  a124 := Tryz.isAgg126
  z124 := Tryz.sizeOf126
  v124 := Tryz.zeroValue126
  t138 := Tryz.underlying160
  a138 := Tryz.isAgg160
  z138 := Tryz.sizeOf160
  v138 := Tryz.zeroValue160
  t139 := Tryz.underlying161
  a139 := Tryz.isAgg161
  z139 := Tryz.sizeOf161
  v139 := Tryz.zeroValue161
  g3 := by kernel_rfl
  g4 := by kernel_rfl }
open Go.RowKit in
/-- (*strings.Builder).String: "String returns the accumulated string.": WHATEVER THE BUILDER HOLDS; THE FORM '_k': OVER 'Lib.IsBuilderF' (a builder that 'String()' may have read), AND WITH THE FRAME THAT REACHES ABOVE THE BUILDER: 'Lib.OthersKept': every block that is not b and is no row of uint8's stands as it stood: the iterator of a range among them. (LAID: no walk: one application.) -/
theorem Tryz.Builder_String_any_k (B b : Nat) (l : List UInt8) (w : World) (h : Lib.IsBuilderF 76 5 B b (Lib.byteCells l) w) (hBw : B ≤ w.heap.size) :
    Calls Tryz.prog 54 #[.pointer (some ⟨b, 0, none⟩)] w fun e w' => e = .returned (.string ⟨l.toArray⟩) ∧ (Lib.IsBuilderF 76 5 B b (Lib.byteCells l) w' ∧ Below B w w' ∧ Lib.OthersKept 5 (some b) w w') := Any.Builder_String_any_k Tryz.lays169 Tryz.zJP B b l w h hBw
def Tryz.zSA : Go.Shelf.Ren := ⟨fun | 172 => 83 | 244 => 100 | 245 => 101 | 247 => 117 | 279 => 118 | 280 => 119 | 281 => 120 | 282 => 121 | 287 => 129 | 316 => 130 | 171 => 53 | 205 => 131 | 321 => 134 | 322 => 135 | 243 => 69 | 246 => 78 | 283 => 85 | 284 => 86 | 285 => 87 | 286 => 88 | 129 => 103 | 317 => 102 | 318 => 104 | 319 => 105 | 320 => 106 | 337 => 122 | 338 => 123 | n => n, fun | 9 => 9 | 3 => 3 | 75 => 78 | 76 => 79 | 4 => 4 | 5 => 5 | 167 => 140 | 37 => 74 | 0 => 0 | 85 => 141 | 2 => 2 | 168 => 143 | 53 => 53 | 175 => 150 | 46 => 96 | 210 => 154 | 127 => 101 | 145 => 167 | 143 => 165 | 21 => 21 | 171 => 113 | 173 => 116 | 212 => 130 | 51 => 131 | 20 => 20 | 213 => 132 | 232 => 156 | 233 => 157 | 80 => 83 | n => n, fun | 15 => 3 | 16 => 4 | 17 => 1 | 18 => 5 | 19 => 6 | n => n⟩
theorem Tryz.lays172 : Go.Proofs.Lays.n172 Tryz.prog Tryz.zSA := {
  mixed := by kernel_rfl
  f129 := Tryz.func103.trans (congrArg some (by kernel_rfl))
  f171 := Tryz.func53.trans (congrArg some (by kernel_rfl))
  f172 := Tryz.func83.trans (congrArg some (by kernel_rfl))
  f205 := Tryz.func131.trans (congrArg some (by kernel_rfl))
  f243 := Tryz.func69.trans (congrArg some (by kernel_rfl))
  f244 := Tryz.func100.trans (congrArg some (by kernel_rfl))
  f245 := Tryz.func101.trans (congrArg some (by kernel_rfl))
  f246 := Tryz.func78.trans (congrArg some (by kernel_rfl))
  f247 := Tryz.func117.trans (congrArg some (by kernel_rfl))
  f279 := Tryz.func118.trans (congrArg some (by kernel_rfl))
  f280 := Tryz.func119.trans (congrArg some (by kernel_rfl))
  f281 := Tryz.func120.trans (congrArg some (by kernel_rfl))
  f282 := Tryz.func121.trans (congrArg some (by kernel_rfl))
  f283 := Tryz.func85.trans (congrArg some (by kernel_rfl))
  f284 := Tryz.func86.trans (congrArg some (by kernel_rfl))
  f285 := Tryz.func87.trans (congrArg some (by kernel_rfl))
  f286 := Tryz.func88.trans (congrArg some (by kernel_rfl))
  f287 := Tryz.func129.trans (congrArg some (by kernel_rfl))
  f316 := Tryz.func130.trans (congrArg some (by kernel_rfl))
  f317 := Tryz.func102.trans (congrArg some (by kernel_rfl))
  f318 := Tryz.func104.trans (congrArg some (by kernel_rfl))
  f319 := Tryz.func105.trans (congrArg some (by kernel_rfl))
  f320 := Tryz.func106.trans (congrArg some (by kernel_rfl))
  f321 := Tryz.func134.trans (congrArg some (by kernel_rfl))
  f322 := Tryz.func135.trans (congrArg some (by kernel_rfl))
  f337 := Tryz.func122.trans (congrArg some (by kernel_rfl))
  f338 := Tryz.func123.trans (congrArg some (by kernel_rfl))
  t0 := Tryz.underlying0
  a0 := Tryz.isAgg0
  z0 := Tryz.sizeOf0
  v0 := Tryz.zeroValue0
  t2 := Tryz.underlying2
  a2 := Tryz.isAgg2
  z2 := Tryz.sizeOf2
  v2 := Tryz.zeroValue2
  t3 := Tryz.underlying3
  a3 := Tryz.isAgg3
  z3 := Tryz.sizeOf3
  v3 := Tryz.zeroValue3
  t4 := Tryz.underlying4
  a4 := Tryz.isAgg4
  z4 := Tryz.sizeOf4
  v4 := Tryz.zeroValue4
  t5 := Tryz.underlying5
  a5 := Tryz.isAgg5
  z5 := Tryz.sizeOf5
  v5 := Tryz.zeroValue5
  t9 := Tryz.underlying9
  a9 := Tryz.isAgg9
  z9 := Tryz.sizeOf9
  v9 := Tryz.zeroValue9
  t20 := Tryz.underlying20
  a20 := Tryz.isAgg20
  z20 := Tryz.sizeOf20
  v20 := Tryz.zeroValue20
  t21 := Tryz.underlying21
  a21 := Tryz.isAgg21
  z21 := Tryz.sizeOf21
  v21 := Tryz.zeroValue21
  t37 := Tryz.underlying74
  a37 := Tryz.isAgg74
  z37 := Tryz.sizeOf74
  v37 := Tryz.zeroValue74
  t46 := Tryz.underlying96
  a46 := Tryz.isAgg96
  z46 := Tryz.sizeOf96
  v46 := Tryz.zeroValue96
  t51 := Tryz.underlying131
  a51 := Tryz.isAgg131
  z51 := Tryz.sizeOf131
  v51 := Tryz.zeroValue131
  t53 := Tryz.underlying53
  a53 := Tryz.isAgg53
  z53 := Tryz.sizeOf53
  v53 := Tryz.zeroValue53
  t75 := Tryz.underlying78
  a75 := Tryz.isAgg78
  z75 := Tryz.sizeOf78
  v75 := Tryz.zeroValue78
  t76 := Tryz.underlying79
  a76 := Tryz.isAgg79
  z76 := Tryz.sizeOf79
  v76 := Tryz.zeroValue79
  t85 := Tryz.underlying141
  a85 := Tryz.isAgg141
  z85 := Tryz.sizeOf141
  v85 := Tryz.zeroValue141
  t127 := Tryz.underlying101
  a127 := Tryz.isAgg101
  z127 := Tryz.sizeOf101
  v127 := Tryz.zeroValue101
  t143 := Tryz.underlying165
  a143 := Tryz.isAgg165
  z143 := Tryz.sizeOf165
  v143 := Tryz.zeroValue165
  t145 := Tryz.underlying167
  a145 := Tryz.isAgg167
  z145 := Tryz.sizeOf167
  v145 := Tryz.zeroValue167
  t167 := Tryz.underlying140
  a167 := Tryz.isAgg140
  z167 := Tryz.sizeOf140
  v167 := Tryz.zeroValue140
  t168 := Tryz.underlying143
  a168 := Tryz.isAgg143
  z168 := Tryz.sizeOf143
  v168 := Tryz.zeroValue143
  t171 := Tryz.underlying113
  a171 := Tryz.isAgg113
  z171 := Tryz.sizeOf113
  v171 := Tryz.zeroValue113
  t173 := Tryz.underlying116
  a173 := Tryz.isAgg116
  z173 := Tryz.sizeOf116
  v173 := Tryz.zeroValue116
  t175 := Tryz.underlying150
  a175 := Tryz.isAgg150
  z175 := Tryz.sizeOf150
  v175 := Tryz.zeroValue150
  t210 := Tryz.underlying154
  a210 := Tryz.isAgg154
  z210 := Tryz.sizeOf154
  v210 := Tryz.zeroValue154
  t212 := Tryz.underlying130
  a212 := Tryz.isAgg130
  z212 := Tryz.sizeOf130
  v212 := Tryz.zeroValue130
  t213 := Tryz.underlying132
  a213 := Tryz.isAgg132
  z213 := Tryz.sizeOf132
  t232 := Tryz.underlying156
  a232 := Tryz.isAgg156
  z232 := Tryz.sizeOf156
  v232 := Tryz.zeroValue156
  t233 := Tryz.underlying157
  a233 := Tryz.isAgg157
  z233 := Tryz.sizeOf157
  v233 := Tryz.zeroValue157
  g15 := by kernel_rfl
  g16 := by kernel_rfl
  g17 := by kernel_rfl
  g18 := by kernel_rfl
  g19 := by kernel_rfl }
open Go.RowKit in
/-- strconv.Atoi: "Atoi is equivalent to ParseInt(s, 10, 0), converted to type int.": AT A DECIMAL NUMERAL OF AT MOST 18 BYTES: its value, and a nil error. The world behind the call: the one new row that the library's '[]byte(s)' lays. (LAID: no walk: one application.) -/
theorem Tryz.strconv_Atoi (s : ByteArray) (n : Int) (hl : s.size ≤ 18) (h : Lib.atoi s.data.toList = some n) (w : World) :
    Calls Tryz.prog 83 #[.string s] w fun e w' => e = .returned (.tuple #[.int .i64 n, .nilIface]) ∧ ∃ t, w' = Lib.bytesWorld w 5 t := Any.strconv_Atoi Tryz.lays172 s n hl h w
def Tryz.zQO : Go.Shelf.Ren := ⟨fun | 171 => 53 | 243 => 69 | 246 => 78 | 283 => 85 | 284 => 86 | 285 => 87 | 286 => 88 | 129 => 103 | 317 => 102 | 318 => 104 | 319 => 105 | 320 => 106 | 337 => 122 | 338 => 123 | n => n, fun | 3 => 3 | 9 => 9 | 2 => 2 | 4 => 4 | 171 => 113 | 0 => 0 | 53 => 53 | 37 => 74 | 5 => 5 | 173 => 116 | 212 => 130 | 51 => 131 | 20 => 20 | 213 => 132 | 46 => 96 | 232 => 156 | 233 => 157 | n => n, fun | 17 => 1 | 18 => 5 | 19 => 6 | n => n⟩
theorem Tryz.laysM171 : Go.Proofs.LaysM.n171 Tryz.prog Tryz.zQO := {
  mixed := by kernel_rfl
  f129 := Tryz.func103.trans (congrArg some (by kernel_rfl))
  f171 := Tryz.func53.trans (congrArg some (by kernel_rfl))
  f243 := Tryz.func69.trans (congrArg some (by kernel_rfl))
  f246 := Tryz.func78.trans (congrArg some (by kernel_rfl))
  f283 := Tryz.func85.trans (congrArg some (by kernel_rfl))
  f284 := Tryz.func86.trans (congrArg some (by kernel_rfl))
  f285 := Tryz.func87.trans (congrArg some (by kernel_rfl))
  f286 := Tryz.func88.trans (congrArg some (by kernel_rfl))
  f317 := Tryz.func102.trans (congrArg some (by kernel_rfl))
  f318 := Tryz.func104.trans (congrArg some (by kernel_rfl))
  f319 := Tryz.func105.trans (congrArg some (by kernel_rfl))
  f320 := Tryz.func106.trans (congrArg some (by kernel_rfl))
  f337 := Tryz.func122.trans (congrArg some (by kernel_rfl))
  f338 := Tryz.func123.trans (congrArg some (by kernel_rfl))
  t0 := Tryz.underlying0
  a0 := Tryz.isAgg0
  z0 := Tryz.sizeOf0
  v0 := Tryz.zeroValue0
  t2 := Tryz.underlying2
  a2 := Tryz.isAgg2
  z2 := Tryz.sizeOf2
  v2 := Tryz.zeroValue2
  t3 := Tryz.underlying3
  a3 := Tryz.isAgg3
  z3 := Tryz.sizeOf3
  v3 := Tryz.zeroValue3
  t4 := Tryz.underlying4
  a4 := Tryz.isAgg4
  z4 := Tryz.sizeOf4
  v4 := Tryz.zeroValue4
  t5 := Tryz.underlying5
  a5 := Tryz.isAgg5
  z5 := Tryz.sizeOf5
  v5 := Tryz.zeroValue5
  t9 := Tryz.underlying9
  a9 := Tryz.isAgg9
  z9 := Tryz.sizeOf9
  v9 := Tryz.zeroValue9
  t20 := Tryz.underlying20
  a20 := Tryz.isAgg20
  z20 := Tryz.sizeOf20
  v20 := Tryz.zeroValue20
  t37 := Tryz.underlying74
  a37 := Tryz.isAgg74
  z37 := Tryz.sizeOf74
  v37 := Tryz.zeroValue74
  t46 := Tryz.underlying96
  a46 := Tryz.isAgg96
  z46 := Tryz.sizeOf96
  v46 := Tryz.zeroValue96
  t51 := Tryz.underlying131
  a51 := Tryz.isAgg131
  z51 := Tryz.sizeOf131
  v51 := Tryz.zeroValue131
  t53 := Tryz.underlying53
  a53 := Tryz.isAgg53
  z53 := Tryz.sizeOf53
  v53 := Tryz.zeroValue53
  t171 := Tryz.underlying113
  a171 := Tryz.isAgg113
  z171 := Tryz.sizeOf113
  v171 := Tryz.zeroValue113
  t173 := Tryz.underlying116
  a173 := Tryz.isAgg116
  z173 := Tryz.sizeOf116
  v173 := Tryz.zeroValue116
  t212 := Tryz.underlying130
  a212 := Tryz.isAgg130
  z212 := Tryz.sizeOf130
  v212 := Tryz.zeroValue130
  t213 := Tryz.underlying132
  a213 := Tryz.isAgg132
  z213 := Tryz.sizeOf132
  t232 := Tryz.underlying156
  a232 := Tryz.isAgg156
  z232 := Tryz.sizeOf156
  v232 := Tryz.zeroValue156
  t233 := Tryz.underlying157
  a233 := Tryz.isAgg157
  z233 := Tryz.sizeOf157
  v233 := Tryz.zeroValue157
  g17 := by kernel_rfl
  g18 := by kernel_rfl
  g19 := by kernel_rfl
  i0 := by kernel_rfl
  i2 := by kernel_rfl
  i3 := by kernel_rfl
  i4 := by kernel_rfl
  i5 := by kernel_rfl
  i9 := by kernel_rfl
  i20 := by kernel_rfl
  i37 := by kernel_rfl
  i46 := by kernel_rfl
  i51 := by kernel_rfl
  i53 := by kernel_rfl
  i171 := by kernel_rfl
  i173 := by kernel_rfl
  i212 := by kernel_rfl
  i232 := by kernel_rfl
  i233 := by kernel_rfl
  m17 := by kernel_rfl
  m18 := by kernel_rfl
  m19 := by kernel_rfl }
open Go.RowKit Go.Sort Go.Lib in
/-- strconv.Itoa: "Itoa is equivalent to FormatInt(int64(i), 10).": i's DECIMAL NUMERAL ('Lib.itoa': a '-' where i is negative, then the digits), FOR EVERY int. The world behind the call: the world before it, new blocks behind the heap (the library's 'var a [24]byte'), draws. (LAID: no walk: one application.) -/
theorem Tryz.strconv_Itoa (n : Int) (h0 : -9223372036854775808 ≤ n) (h1 : n ≤ 9223372036854775807) (w : World) (htab : Lib.TabIs Tryz.prog w "internal/strconv.uint64pow10" .u64 Lib.pow10Tab) :
    Calls Tryz.prog 53 #[.int .i64 n] w fun e w' => e = .returned (.string ⟨(Lib.itoa n).toArray⟩) ∧ ∃ k os, w' = grow (w.drewN k) os := Any.strconv_Itoa Tryz.laysM171 n h0 h1 w htab
def Tryz.zQP : Go.Shelf.Ren := ⟨fun | 172 => 83 | 244 => 100 | 245 => 101 | 247 => 117 | 279 => 118 | 280 => 119 | 281 => 120 | 282 => 121 | 287 => 129 | 316 => 130 | 171 => 53 | 205 => 131 | 321 => 134 | 322 => 135 | 243 => 69 | 246 => 78 | 283 => 85 | 284 => 86 | 285 => 87 | 286 => 88 | 129 => 103 | 317 => 102 | 318 => 104 | 319 => 105 | 320 => 106 | 337 => 122 | 338 => 123 | n => n, fun | 9 => 9 | 3 => 3 | 75 => 78 | 76 => 79 | 4 => 4 | 5 => 5 | 167 => 140 | 37 => 74 | 0 => 0 | 85 => 141 | 2 => 2 | 168 => 143 | 53 => 53 | 175 => 150 | 46 => 96 | 210 => 154 | 127 => 101 | 145 => 167 | 143 => 165 | 21 => 21 | 171 => 113 | 173 => 116 | 212 => 130 | 51 => 131 | 20 => 20 | 213 => 132 | 232 => 156 | 233 => 157 | 80 => 83 | n => n, fun | 15 => 3 | 16 => 4 | 17 => 1 | 18 => 5 | 19 => 6 | n => n⟩
theorem Tryz.zOA : Go.Proofs.LaysC.n172 Tryz.prog Tryz.zQP := {
  mixed := by kernel_rfl
  f129 := Tryz.func103.trans (congrArg some (by kernel_rfl))
  f171 := Tryz.func53.trans (congrArg some (by kernel_rfl))
  f172 := Tryz.func83.trans (congrArg some (by kernel_rfl))
  f205 := Tryz.func131.trans (congrArg some (by kernel_rfl))
  f243 := Tryz.func69.trans (congrArg some (by kernel_rfl))
  f244 := Tryz.func100.trans (congrArg some (by kernel_rfl))
  f245 := Tryz.func101.trans (congrArg some (by kernel_rfl))
  f246 := Tryz.func78.trans (congrArg some (by kernel_rfl))
  f247 := Tryz.func117.trans (congrArg some (by kernel_rfl))
  f279 := Tryz.func118.trans (congrArg some (by kernel_rfl))
  f280 := Tryz.func119.trans (congrArg some (by kernel_rfl))
  f281 := Tryz.func120.trans (congrArg some (by kernel_rfl))
  f282 := Tryz.func121.trans (congrArg some (by kernel_rfl))
  f283 := Tryz.func85.trans (congrArg some (by kernel_rfl))
  f284 := Tryz.func86.trans (congrArg some (by kernel_rfl))
  f285 := Tryz.func87.trans (congrArg some (by kernel_rfl))
  f286 := Tryz.func88.trans (congrArg some (by kernel_rfl))
  f287 := Tryz.func129.trans (congrArg some (by kernel_rfl))
  f316 := Tryz.func130.trans (congrArg some (by kernel_rfl))
  f317 := Tryz.func102.trans (congrArg some (by kernel_rfl))
  f318 := Tryz.func104.trans (congrArg some (by kernel_rfl))
  f319 := Tryz.func105.trans (congrArg some (by kernel_rfl))
  f320 := Tryz.func106.trans (congrArg some (by kernel_rfl))
  f321 := Tryz.func134.trans (congrArg some (by kernel_rfl))
  f322 := Tryz.func135.trans (congrArg some (by kernel_rfl))
  f337 := Tryz.func122.trans (congrArg some (by kernel_rfl))
  f338 := Tryz.func123.trans (congrArg some (by kernel_rfl))
  t0 := Tryz.underlying0
  a0 := Tryz.isAgg0
  z0 := Tryz.sizeOf0
  v0 := Tryz.zeroValue0
  t2 := Tryz.underlying2
  a2 := Tryz.isAgg2
  z2 := Tryz.sizeOf2
  v2 := Tryz.zeroValue2
  t3 := Tryz.underlying3
  a3 := Tryz.isAgg3
  z3 := Tryz.sizeOf3
  v3 := Tryz.zeroValue3
  t4 := Tryz.underlying4
  a4 := Tryz.isAgg4
  z4 := Tryz.sizeOf4
  v4 := Tryz.zeroValue4
  t5 := Tryz.underlying5
  a5 := Tryz.isAgg5
  z5 := Tryz.sizeOf5
  v5 := Tryz.zeroValue5
  t9 := Tryz.underlying9
  a9 := Tryz.isAgg9
  z9 := Tryz.sizeOf9
  v9 := Tryz.zeroValue9
  t20 := Tryz.underlying20
  a20 := Tryz.isAgg20
  z20 := Tryz.sizeOf20
  v20 := Tryz.zeroValue20
  t21 := Tryz.underlying21
  a21 := Tryz.isAgg21
  z21 := Tryz.sizeOf21
  v21 := Tryz.zeroValue21
  t37 := Tryz.underlying74
  a37 := Tryz.isAgg74
  z37 := Tryz.sizeOf74
  v37 := Tryz.zeroValue74
  t46 := Tryz.underlying96
  a46 := Tryz.isAgg96
  z46 := Tryz.sizeOf96
  v46 := Tryz.zeroValue96
  t51 := Tryz.underlying131
  a51 := Tryz.isAgg131
  z51 := Tryz.sizeOf131
  v51 := Tryz.zeroValue131
  t53 := Tryz.underlying53
  a53 := Tryz.isAgg53
  z53 := Tryz.sizeOf53
  v53 := Tryz.zeroValue53
  t75 := Tryz.underlying78
  a75 := Tryz.isAgg78
  z75 := Tryz.sizeOf78
  v75 := Tryz.zeroValue78
  t76 := Tryz.underlying79
  a76 := Tryz.isAgg79
  z76 := Tryz.sizeOf79
  v76 := Tryz.zeroValue79
  t85 := Tryz.underlying141
  a85 := Tryz.isAgg141
  z85 := Tryz.sizeOf141
  v85 := Tryz.zeroValue141
  t127 := Tryz.underlying101
  a127 := Tryz.isAgg101
  z127 := Tryz.sizeOf101
  v127 := Tryz.zeroValue101
  t143 := Tryz.underlying165
  a143 := Tryz.isAgg165
  z143 := Tryz.sizeOf165
  v143 := Tryz.zeroValue165
  t145 := Tryz.underlying167
  a145 := Tryz.isAgg167
  z145 := Tryz.sizeOf167
  v145 := Tryz.zeroValue167
  t167 := Tryz.underlying140
  a167 := Tryz.isAgg140
  z167 := Tryz.sizeOf140
  v167 := Tryz.zeroValue140
  t168 := Tryz.underlying143
  a168 := Tryz.isAgg143
  z168 := Tryz.sizeOf143
  v168 := Tryz.zeroValue143
  t171 := Tryz.underlying113
  a171 := Tryz.isAgg113
  z171 := Tryz.sizeOf113
  v171 := Tryz.zeroValue113
  t173 := Tryz.underlying116
  a173 := Tryz.isAgg116
  z173 := Tryz.sizeOf116
  v173 := Tryz.zeroValue116
  t175 := Tryz.underlying150
  a175 := Tryz.isAgg150
  z175 := Tryz.sizeOf150
  v175 := Tryz.zeroValue150
  t210 := Tryz.underlying154
  a210 := Tryz.isAgg154
  z210 := Tryz.sizeOf154
  v210 := Tryz.zeroValue154
  t212 := Tryz.underlying130
  a212 := Tryz.isAgg130
  z212 := Tryz.sizeOf130
  v212 := Tryz.zeroValue130
  t213 := Tryz.underlying132
  a213 := Tryz.isAgg132
  z213 := Tryz.sizeOf132
  t232 := Tryz.underlying156
  a232 := Tryz.isAgg156
  z232 := Tryz.sizeOf156
  v232 := Tryz.zeroValue156
  t233 := Tryz.underlying157
  a233 := Tryz.isAgg157
  z233 := Tryz.sizeOf157
  v233 := Tryz.zeroValue157
  g15 := by kernel_rfl
  g16 := by kernel_rfl
  g17 := by kernel_rfl
  g18 := by kernel_rfl
  g19 := by kernel_rfl
  t80 := Tryz.underlying83
  a80 := Tryz.isAgg83
  z80 := Tryz.sizeOf83
  v80 := Tryz.zeroValue83
  i0 := by kernel_rfl
  i2 := by kernel_rfl
  i3 := by kernel_rfl
  i4 := by kernel_rfl
  i5 := by kernel_rfl
  i9 := by kernel_rfl
  i20 := by kernel_rfl
  i21 := by kernel_rfl
  i37 := by kernel_rfl
  i46 := by kernel_rfl
  i51 := by kernel_rfl
  i53 := by kernel_rfl
  i75 := by kernel_rfl
  i76 := by kernel_rfl
  i80 := by kernel_rfl
  i85 := by kernel_rfl
  i127 := by kernel_rfl
  i143 := by kernel_rfl
  i145 := by kernel_rfl
  i167 := by kernel_rfl
  i168 := by kernel_rfl
  i171 := by kernel_rfl
  i173 := by kernel_rfl
  i175 := by kernel_rfl
  i210 := by kernel_rfl
  i212 := by kernel_rfl
  i232 := by kernel_rfl
  i233 := by kernel_rfl
  m15 := by kernel_rfl
  m16 := by kernel_rfl
  m17 := by kernel_rfl
  m18 := by kernel_rfl
  m19 := by kernel_rfl
  c0 := by kernel_rfl
  c2 := by kernel_rfl
  c3 := by kernel_rfl
  c4 := by kernel_rfl
  c5 := by kernel_rfl
  c9 := by kernel_rfl
  c20 := by kernel_rfl
  c21 := by kernel_rfl
  c37 := by kernel_rfl
  c46 := by kernel_rfl
  c51 := by kernel_rfl
  c53 := by kernel_rfl
  c75 := by kernel_rfl
  c76 := by kernel_rfl
  c80 := by kernel_rfl
  c85 := by kernel_rfl
  c127 := by kernel_rfl
  c143 := by kernel_rfl
  c145 := by kernel_rfl
  c167 := by kernel_rfl
  c168 := by kernel_rfl
  c171 := by kernel_rfl
  c173 := by kernel_rfl
  c175 := by kernel_rfl
  c210 := by kernel_rfl
  c212 := by kernel_rfl
  c213 := by kernel_rfl
  c232 := by kernel_rfl
  c233 := by kernel_rfl }
open Go.RowKit in
/-- strconv.Atoi, AT EVERY STRING THAT SPELLS AN int ('Lib.atoiAll .. = .ok v'; of whatever length: leading zeros count): v, AND NO ERROR. The world: as it was, or with the one new row that '[]byte(..)' lays. (LAID: no walk: one application.) -/
theorem Tryz.strconv_Atoi_ok (s : ByteArray) (hmax : s.size ≤ 9223372036854775806) (v : Int) (h : Lib.atoiAll s.data.toList = .ok v) (w : World) :
    Calls Tryz.prog 83 #[.string s] w fun e w' => e = .returned (.tuple #[.int .i64 v, .nilIface]) ∧ (w' = w ∨ ∃ t, w' = Lib.bytesWorld w 5 t) := Any.strconv_Atoi_ok Tryz.zOA s hmax v h w
open Go.RowKit in
theorem Tryz.strconv_Atoi_syntax_var (s : ByteArray) (hlim : s.size ≤ 281474976710656) (h : Lib.atoiAll s.data.toList = Lib.NumEnd.syntax) (tp : TypeId) (p : Value) (w : World) (hvar : w.var? Tryz.prog "strconv.ErrSyntax" = some #[.iface tp p]) :
    Calls Tryz.prog 83 #[.string s] w fun e w' => ∃ N, e = .returned (.tuple #[.int .i64 0, .iface 143 (.pointer (some ⟨N, 0, none⟩))]) ∧ w.heap.size ≤ N ∧ w'.heap[N]? = some (.cells #[.string ⟨#[65, 116, 111, 105]⟩, .string s, .iface tp p] 154 (0, 0)) ∧ Below w.heap.size w w' := Any.strconv_Atoi_syntax_var Tryz.zOA s hlim h tp p w hvar
open Go.RowKit in
theorem Tryz.strconv_Atoi_range_var (s : ByteArray) (hlim : s.size ≤ 281474976710656) (h : Lib.atoiAll s.data.toList = .range) (tp : TypeId) (p : Value) (w : World) (hvar : w.var? Tryz.prog "strconv.ErrRange" = some #[.iface tp p]) :
    Calls Tryz.prog 83 #[.string s] w fun e w' => ∃ N, e = .returned (.tuple #[.int .i64 (Lib.atoiSat s.data.toList), .iface 143 (.pointer (some ⟨N, 0, none⟩))]) ∧ w.heap.size ≤ N ∧ w'.heap[N]? = some (.cells #[.string ⟨#[65, 116, 111, 105]⟩, .string s, .iface tp p] 154 (0, 0)) ∧ Below w.heap.size w w' := Any.strconv_Atoi_range_var Tryz.zOA s hlim h tp p w hvar
def Tryz.zSD : Go.Shelf.Ren := ⟨fun | 145 => 71 | 220 => 79 | 219 => 89 | 217 => 107 | 225 => 108 | 224 => 109 | 267 => 110 | 266 => 124 | 314 => 125 | n => n, fun | 9 => 9 | 4 => 4 | 59 => 92 | 3 => 3 | 5 => 5 | 46 => 96 | 146 => 147 | 51 => 131 | n => n, fun | 1 => 2 | n => n⟩
theorem Tryz.lays145 : Go.Proofs.Lays.n145 Tryz.prog Tryz.zSD := {
  mixed := by kernel_rfl
  f145 := Tryz.func71.trans (congrArg some (by kernel_rfl))
  f217 := Tryz.func107.trans (congrArg some (by kernel_rfl))
  f219 := Tryz.func89.trans (congrArg some (by kernel_rfl))
  f220 := Tryz.func79.trans (congrArg some (by kernel_rfl))
  f224 := Tryz.func109.trans (congrArg some (by kernel_rfl))
  f225 := Tryz.func108.trans (congrArg some (by kernel_rfl))
  f266 := Tryz.func124.trans (congrArg some (by kernel_rfl))
  f267 := Tryz.func110.trans (congrArg some (by kernel_rfl))
  f314 := Tryz.func125.trans (congrArg some (by kernel_rfl))
  t3 := Tryz.underlying3
  a3 := Tryz.isAgg3
  z3 := Tryz.sizeOf3
  v3 := Tryz.zeroValue3
  t4 := Tryz.underlying4
  a4 := Tryz.isAgg4
  z4 := Tryz.sizeOf4
  v4 := Tryz.zeroValue4
  t5 := Tryz.underlying5
  a5 := Tryz.isAgg5
  z5 := Tryz.sizeOf5
  v5 := Tryz.zeroValue5
  t9 := Tryz.underlying9
  a9 := Tryz.isAgg9
  z9 := Tryz.sizeOf9
  v9 := Tryz.zeroValue9
  t46 := Tryz.underlying96
  a46 := Tryz.isAgg96
  z46 := Tryz.sizeOf96
  v46 := Tryz.zeroValue96
  t51 := Tryz.underlying131
  a51 := Tryz.isAgg131
  z51 := Tryz.sizeOf131
  v51 := Tryz.zeroValue131
  t59 := Tryz.underlying92
  a59 := Tryz.isAgg92
  z59 := Tryz.sizeOf92
  v59 := Tryz.zeroValue92
  t146 := Tryz.underlying147
  a146 := Tryz.isAgg147
  z146 := Tryz.sizeOf147
  v146 := Tryz.zeroValue147
  g1 := by kernel_rfl }
open Go.RowKit Go.Lib in
/-- strings.Cut: "Cut slices s around the first instance of sep, returning the text before and after sep. The found result reports whether sep appears in s. If sep does not appear in s, cut returns s, "", false.": IT RETURNS 'Lib.cut s sep'; the world is as it was but for the count of draws. (LAID: no walk: one application.) -/
theorem Tryz.strings_Cut (s sep : ByteArray) (m : Int) (w : World) (hs : s.size < 4294967281) (hm : w.cell? ⟨2, 0, none⟩ = some (.int .i64 m)) :
    Calls Tryz.prog 71 #[.string s, .string sep] w fun e w' => e = .returned (.tuple #[.string ⟨(Lib.cut s.data.toList sep.data.toList).1.toArray⟩, .string ⟨(Lib.cut s.data.toList sep.data.toList).2.1.toArray⟩, .bool (Lib.cut s.data.toList sep.data.toList).2.2]) ∧ ∃ n, w' = w.drewN n := Any.strings_Cut Tryz.lays145 s sep m w hs hm
def Tryz.zRZ : Go.Shelf.Ren := ⟨fun | 206 => 80 | n => n, fun | 9 => 9 | 4 => 4 | 3 => 3 | n => n, fun | n => n⟩
theorem Tryz.lays206 : Go.Proofs.Lays.n206 Tryz.prog Tryz.zRZ := {
  mixed := by kernel_rfl
  f206 := Tryz.func80.trans (congrArg some (by kernel_rfl))
  t3 := Tryz.underlying3
  a3 := Tryz.isAgg3
  z3 := Tryz.sizeOf3
  v3 := Tryz.zeroValue3
  t4 := Tryz.underlying4
  a4 := Tryz.isAgg4
  z4 := Tryz.sizeOf4
  v4 := Tryz.zeroValue4
  t9 := Tryz.underlying9
  a9 := Tryz.isAgg9
  z9 := Tryz.sizeOf9
  v9 := Tryz.zeroValue9 }
open Go.RowKit Go.Lib in
/-- internal/stringslite.HasPrefix (what strings.HasPrefix calls). (LAID: no walk: one application.) -/
theorem Tryz.stringslite_HasPrefix (s p : ByteArray) (w : World) :
    Calls Tryz.prog 80 #[.string s, .string p] w fun e w' => e = .returned (.bool (Lib.hasPrefix s.data.toList p.data.toList)) ∧ w' = w := Any.stringslite_HasPrefix Tryz.lays206 s p w
def Tryz.zSC : Go.Shelf.Ren := ⟨fun | 146 => 73 | 221 => 81 | 268 => 90 | 138 => 91 | 143 => 92 | 195 => 111 | 197 => 112 | 218 => 113 | 219 => 89 | 260 => 126 | 217 => 107 | 225 => 108 | 224 => 109 | 267 => 110 | 266 => 124 | 314 => 125 | n => n, fun | 9 => 9 | 31 => 90 | 3 => 3 | 4 => 4 | 0 => 0 | 105 => 136 | 21 => 21 | 5 => 5 | 46 => 96 | 119 => 158 | 139 => 161 | 138 => 160 | 146 => 147 | 51 => 131 | n => n, fun | 1 => 2 | 3 => 7 | 4 => 8 | n => n⟩
theorem Tryz.lays146 : Go.Proofs.Lays.n146 Tryz.prog Tryz.zSC := {
  mixed := by kernel_rfl
  f138 := Tryz.func91.trans (congrArg some (by kernel_rfl))
  f143 := Tryz.func92.trans (congrArg some (by kernel_rfl))
  f146 := Tryz.func73.trans (congrArg some (by kernel_rfl))
  f195 := Tryz.func111.trans (congrArg some (by kernel_rfl))
  f197 := Tryz.func112.trans (congrArg some (by kernel_rfl))
  f217 := Tryz.func107.trans (congrArg some (by kernel_rfl))
  f218 := Tryz.func113.trans (congrArg some (by kernel_rfl))
  f219 := Tryz.func89.trans (congrArg some (by kernel_rfl))
  f221 := Tryz.func81.trans (congrArg some (by kernel_rfl))
  f224 := Tryz.func109.trans (congrArg some (by kernel_rfl))
  f225 := Tryz.func108.trans (congrArg some (by kernel_rfl))
  f260 := Tryz.func126.trans (congrArg some (by kernel_rfl))
  f266 := Tryz.func124.trans (congrArg some (by kernel_rfl))
  f267 := Tryz.func110.trans (congrArg some (by kernel_rfl))
  f268 := Tryz.func90.trans (congrArg some (by kernel_rfl))
  f314 := Tryz.func125.trans (congrArg some (by kernel_rfl))
  t0 := Tryz.underlying0
  a0 := Tryz.isAgg0
  z0 := Tryz.sizeOf0
  v0 := Tryz.zeroValue0
  t3 := Tryz.underlying3
  a3 := Tryz.isAgg3
  z3 := Tryz.sizeOf3
  v3 := Tryz.zeroValue3
  t4 := Tryz.underlying4
  a4 := Tryz.isAgg4
  z4 := Tryz.sizeOf4
  v4 := Tryz.zeroValue4
  t5 := Tryz.underlying5
  a5 := Tryz.isAgg5
  z5 := Tryz.sizeOf5
  v5 := Tryz.zeroValue5
  t9 := Tryz.underlying9
  a9 := Tryz.isAgg9
  z9 := Tryz.sizeOf9
  v9 := Tryz.zeroValue9
  t21 := Tryz.underlying21
  a21 := Tryz.isAgg21
  z21 := Tryz.sizeOf21
  v21 := Tryz.zeroValue21
  t31 := Tryz.underlying90
  a31 := Tryz.isAgg90
  z31 := Tryz.sizeOf90
  v31 := Tryz.zeroValue90
  t46 := Tryz.underlying96
  a46 := Tryz.isAgg96
  z46 := Tryz.sizeOf96
  v46 := Tryz.zeroValue96
  t51 := Tryz.underlying131
  a51 := Tryz.isAgg131
  z51 := Tryz.sizeOf131
  v51 := Tryz.zeroValue131
  t105 := Tryz.underlying136
  a105 := Tryz.isAgg136
  z105 := Tryz.sizeOf136
  v105 := Tryz.zeroValue136
  t119 := Tryz.underlying158
  a119 := Tryz.isAgg158
  z119 := Tryz.sizeOf158
  t138 := Tryz.underlying160
  a138 := Tryz.isAgg160
  z138 := Tryz.sizeOf160
  v138 := Tryz.zeroValue160
  t139 := Tryz.underlying161
  a139 := Tryz.isAgg161
  z139 := Tryz.sizeOf161
  v139 := Tryz.zeroValue161
  t146 := Tryz.underlying147
  a146 := Tryz.isAgg147
  z146 := Tryz.sizeOf147
  v146 := Tryz.zeroValue147
  g1 := by kernel_rfl
  g3 := by kernel_rfl
  g4 := by kernel_rfl }
open Go.RowKit Go.Lib in
/-- strings.Split. (LAID: no walk: one application.) -/
theorem Tryz.strings_Split (s sep : ByteArray) (m : Int) (w : World) (hs : s.size < 4294967281) (hm : w.cell? ⟨2, 0, none⟩ = some (.int .i64 m)) (h1 : 1 ≤ sep.size) :
    Calls Tryz.prog 73 #[.string s, .string sep] w fun e w' =>
      e = .returned (.slice (some ⟨w.heap.size, 0, none⟩) (Lib.countB s sep + 1) (Lib.countB s sep + 1)) ∧ w' = w.alloc (.cells ((Lib.splitB sep 0 (Lib.countB s sep) s).map Value.string).toArray 9) := Any.strings_Split Tryz.lays146 (by kernel_rfl) s sep m w hs hm h1
def Tryz.zRY : Go.Shelf.Ren := ⟨fun | 264 => 32 | n => n, fun | 53 => 53 | 46 => 96 | n => n, fun | n => n⟩
theorem Tryz.lays264 : Go.Proofs.Lays.n264 Tryz.prog Tryz.zRY := {
  mixed := by kernel_rfl
  f264 := Tryz.func32.trans (congrArg some (by kernel_rfl))
  t46 := Tryz.underlying96
  a46 := Tryz.isAgg96
  z46 := Tryz.sizeOf96
  v46 := Tryz.zeroValue96
  t53 := Tryz.underlying53
  a53 := Tryz.isAgg53
  z53 := Tryz.sizeOf53
  v53 := Tryz.zeroValue53 }
open Go.RowKit Go.Lib in
theorem Tryz.bits_Mul64 (x y : Nat) (hx : x < 18446744073709551616) (hy : y < 18446744073709551616) (w : World) :
    Calls Tryz.prog 32 #[.int .u64 x, .int .u64 y] w fun e w' => e = .returned (.tuple #[.int .u64 ((x * y / 18446744073709551616 : Nat) : Int), .int .u64 ((x * y % 18446744073709551616 : Nat) : Int)]) ∧ w' = w := Any.bits_Mul64 Tryz.lays264 x y hx hy w
end Go.Proofs
namespace Go.Proofs.YtholbmidciapdaaGreatDoor.X
open Go Go.Shelf Go.RowKit
set_option maxHeartbeats 2000000 in
set_option maxRecDepth 100000 in
theorem zMK (b : Nat) (w : World) (h0 : w.cell? ⟨b, 0, none⟩ = some (.pointer (some ⟨b, 0, none⟩))) :
    Calls Tryz.prog 68 #[.pointer (some ⟨b, 0, none⟩)] w fun e w' => e = .returned (.tuple #[]) ∧ w' = w := by
  obtain ⟨j, hj, hjs⟩ : ∃ j, Tryz.prog.info? 76 = some j ∧ j.size = 2 := Option.map_eq_some_iff.1 (by kernel_rfl : (Tryz.prog.info? 76).map (·.size) = some 2)
  go_enter Tryz.func68, Tryz.ntmps68
  go_wp2
  rw [Lib.run_neq_ptr_same w _ Tryz.underlying73 hj]
  go_wp2
  go_end0
  exact ⟨rfl, rfl⟩
set_option maxHeartbeats 2000000 in
set_option maxRecDepth 100000 in
theorem zLN (b : Nat) (w : World) (h0 : w.cell? ⟨b, 0, none⟩ = some (.pointer none)) (hsh : w.shape? b = some (76, 2)) (hfz : w.frozen? ⟨b, 0, none⟩ = false) :
    Calls Tryz.prog 68 #[.pointer (some ⟨b, 0, none⟩)] w fun e w' => e = .returned (.tuple #[]) ∧ w' = w.setCell ⟨b, 0, none⟩ (.pointer (some ⟨b, 0, none⟩)) := by
  obtain ⟨j, hj, hjs⟩ : ∃ j, Tryz.prog.info? 76 = some j ∧ j.size = 2 := Option.map_eq_some_iff.1 (by kernel_rfl : (Tryz.prog.info? 76).map (·.size) = some 2)
  go_enter Tryz.func68, Tryz.ntmps68
  go_wp2
  rw [Lib.run_to_unsafe w ⟨b, 0, none⟩ Tryz.underlying73 Tryz.underlying106 hj (by rw [hjs]; decide) hsh (Nat.zero_lt_succ 1)]
  simp only [Result.andThen]
  rw [Oper.upon_value]
  go_wp2
  rw [run_callFunc_extern Tryz.func77 (by kernel_rfl) (by kernel_rfl) (by kernel_rfl) (e := Extern.AbiNoEscape.same) (by kernel_rfl)]
  rw [Lib.run_noEscape]
  simp only [Result.andThen]
  rw [Oper.upon_value]
  go_wp2
  rw [Lib.run_from_unsafe w ⟨b, 0, none⟩ Tryz.underlying106 Tryz.underlying73 hj hsh (by kernel_rfl)]
  simp only [Result.andThen]
  rw [Oper.upon_value]
  go_wp2
  go_end0
  exact ⟨rfl, rfl⟩
theorem wAS (B b : Nat) (bs : List Value) (w : World) (h : Lib.IsBuilderF 76 5 B b bs w) :
    Calls Tryz.prog 68 #[.pointer (some ⟨b, 0, none⟩)] w fun e w' => e = .returned (.tuple #[]) ∧ (Lib.BuilderAtF 76 5 B b (.pointer (some ⟨b, 0, none⟩)) bs w' ∧ Below B w w' ∧ Lib.OthersKept 5 (some b) w w') := by
  rcases h with h | h
  · refine (zLN b w h.cell0 h.shape h.frozen0).mono ?_
    rintro e w' ⟨rfl, rfl⟩
    exact ⟨rfl, h.used _, (Below.refl B w).setCell (p := ⟨b, 0, none⟩) h.1 _, (Lib.OthersKept.refl _ _ w).setCell ⟨b, 0, none⟩ rfl _⟩
  · refine (zMK b w h.cell0).mono ?_
    rintro e w' ⟨rfl, rfl⟩
    exact ⟨rfl, h, Below.refl B _, Lib.OthersKept.refl _ _ _⟩
set_option maxHeartbeats 4000000 in
set_option maxRecDepth 100000 in
theorem writeString (B b : Nat) (bs : List Value) (s : ByteArray) (w : World) (h : Lib.IsBuilderF 76 5 B b bs w) (hlen : bs.length + s.size ≤ 140737488355328) (hBw : B ≤ w.heap.size) :
    Calls Tryz.prog 52 #[.pointer (some ⟨b, 0, none⟩), .string s] w fun e w' => e = .returned (.tuple #[.int .i64 s.size, .nilIface]) ∧ (Lib.IsBuilderF 76 5 B b (bs ++ Lib.strCells s) w' ∧ Below B w w' ∧ Lib.OthersKept 5 (some b) w w') := by
  obtain ⟨i0, hi, hz0, hz1, hz2⟩ := info_parts (by kernel_rfl : (Tryz.prog.info? 5).map (fun i => (i.zero, i.size, i.bytes)) = some (some (.int .u8 0), 1, 1))
  go_enter Tryz.func52, Tryz.ntmps52
  go_wp2_with (go_at_call 68; refine (wAS B b bs _ h).mono ?_)
  rintro e w1 ⟨rfl, h1, hb1, hk1⟩
  obtain ⟨hB, v, hbk, hown, hne⟩ := h1
  have c0 : w1.cell? ⟨b, 0, none⟩ = some (.pointer (some ⟨b, 0, none⟩)) := by rw [Lib.cell_of_heap hbk]; rfl
  have c1 : w1.cell? ⟨b, 1, none⟩ = some v := by rw [Lib.cell_of_heap hbk]; rfl
  go_wp2_with (at_builtin; refine Lib.wpList_append_own_stringF _ rfl _ _ 74 9 rfl B 5 i0 Tryz.underlying74 Tryz.underlying9 hi hz0 hz1 hz2 _ _ _ rfl hown s rfl ?c3 ?c4 ?c5 ?_)
  case c3 => unfold maxLen; omega
  case c4 => omega
  case c5 => have := hb1.size; omega
  intro v' w2 hown' hgrow _
  have hlt : b < w1.heap.size := by
    rcases Nat.lt_or_ge b w1.heap.size with h' | h'
    · exact h'
    · simp [Array.getElem?_eq_none h'] at hbk
  have hb2 : w2.heap[b]? = some (.cells #[.pointer (some ⟨b, 0, none⟩), v] 76 (0, 0)) := by
    rw [hgrow.block b hlt (fun e => hne e.symm)]
    exact hbk
  have d0 : w2.cell? ⟨b, 0, none⟩ = some (.pointer (some ⟨b, 0, none⟩)) := by rw [Lib.cell_of_heap hb2]; rfl
  have d1 : w2.cell? ⟨b, 1, none⟩ = some v := by rw [Lib.cell_of_heap hb2]; rfl
  have f1 : w2.frozen? ⟨b, 1, none⟩ = false := Lib.frozen_of_heap hb2 1
  obtain ⟨ao, n', cap, rfl⟩ : ∃ ao n' cap, v' = .slice ao n' cap := by
    rcases hown'.2 with ⟨hv, _⟩ | ⟨g, cap, cur, fz, hv, _⟩
    · exact ⟨_, _, _, hv⟩
    · exact ⟨_, _, _, hv⟩
  go_wp2
  go_ret2
  refine ⟨rfl, ?_, ?_, (hk1.grown hgrow (Lib.ownsRowF_kind hown)).setCell ⟨b, 1, none⟩ rfl _⟩
  · exact Or.inr (Lib.BuilderAtF.put (T := 76) (e := 5) hB hb2 (bs' := bs ++ Lib.strCells s) (by simpa [Lib.strCells_length] using hown') (by decide))
  · exact (hb1.grown hgrow (by have := hb1.size; omega) (fun k hk => (hown.lt k hk).1)).setCell (p := ⟨b, 1, none⟩) hB _
theorem bld_heap {T e : TypeId} {B b : Nat} {bs : List Value} {W W2 : World} (h : Lib.IsBuilderF T e B b bs W) (hk : ∀ i, i < W.heap.size → W2.heap[i]? = W.heap[i]?) : Lib.IsBuilderF T e B b bs W2 := by
  have lt : ∀ {i : Nat} {o : Obj}, W.heap[i]? = some o → i < W.heap.size := by
    intro i o h
    rcases Nat.lt_or_ge i W.heap.size with h' | h'
    · exact h'
    · simp [Array.getElem?_eq_none h'] at h
  have key : ∀ p, Lib.BuilderAtF T e B b p bs W → Lib.BuilderAtF T e B b p bs W2 := by
    rintro p ⟨hB, v, hb, hown, hne⟩
    refine ⟨hB, v, (hk b (lt hb)).trans hb, ⟨hown.1, ?_⟩, hne⟩
    rcases hown.2 with h | ⟨g, cap, cur, fz, hv, hBg, hg, rest⟩
    · exact .inl h
    · exact .inr ⟨g, cap, cur, fz, hv, hBg, (hk g (lt hg)).trans hg, rest⟩
  exact h.elim (fun x => .inl (key _ x)) (fun x => .inr (key _ x))
theorem zFR {T e : TypeId} {B b : Nat} {bs : List Value} {W W2 : World} (h : Lib.IsBuilderF T e B b bs W) (hb : Below W.heap.size W W2) : Lib.IsBuilderF T e B b bs W2 := bld_heap h hb.block
theorem zWD {T e : TypeId} {B b : Nat} {bs : List Value} {W : World} (h : Lib.IsBuilderF T e B b bs W) : B ≤ W.heap.size := by
  have : ∀ p, Lib.BuilderAtF T e B b p bs W → B ≤ W.heap.size := by
    rintro p ⟨hB, v, hb, _⟩
    rcases Nat.lt_or_ge b W.heap.size with h' | h'
    · omega
    · simp [Array.getElem?_eq_none h'] at hb
  exact h.elim (this _) (this _)
theorem zJM {B : Nat} {w W W2 : World} (h : Below w.heap.size w W) (k : Below B W W2) (hB : w.heap.size ≤ B) : Below w.heap.size w W2 := h.trans (k.mono hB)
/-- A write, over bytes. -/
theorem zMQ (B b : Nat) (acc : List UInt8) (s : ByteArray) (w : World) (h : Lib.IsBuilderF 76 5 B b (Lib.byteCells acc) w) (hlen : acc.length + s.size ≤ 140737488355328) :
    Calls Tryz.prog 52 #[.pointer (some ⟨b, 0, none⟩), .string s] w fun e w' => (∃ n : Int, e = .returned (.tuple #[.int .i64 n, .nilIface])) ∧ Lib.IsBuilderF 76 5 B b (Lib.byteCells (acc ++ s.data.toList)) w' ∧ Below B w w' ∧ Lib.OthersKept 5 (some b) w w' := by
  refine (writeString B b (Lib.byteCells acc) s w h (by rw [Lib.byteCells_length]; exact hlen) (zWD h)).mono ?_
  rintro e w' ⟨rfl, h1, hb, hk⟩
  refine ⟨⟨_, rfl⟩, ?_, hb, hk⟩
  rw [Lib.strCells_eq] at h1
  simpa [Lib.byteCells] using h1
end Go.Proofs.YtholbmidciapdaaGreatDoor.X
namespace Go.Proofs.YtholbmidciapdaaGreatDoor.X
open Go.RowKit
/-- The decimal numeral of an int. -/
def strconv_Itoa.f (a0 : Int) : Option ByteArray := if -9223372036854775808 ≤ a0 then (if a0 ≤ 9223372036854775807 then some ⟨(Lib.itoa a0).toArray⟩ else none) else none
theorem zXE (w : World) (q : Nat) (os : Array Obj) : Below w.heap.size w (Sort.grow (w.drewN q) os) :=
  ⟨rfl, rfl, rfl, by show w.heap.size ≤ (w.heap ++ os).size; rw [Array.size_append]; omega, fun i hi => by
    show ((w.drewN q).heap ++ os)[i]? = _
    rw [Array.getElem?_append_left (by show i < w.heap.size; omega)]
    rfl⟩
theorem strconv_Itoa.calls (a0 : Int) (r : ByteArray) (w : World) (hG : GI w) (h : strconv_Itoa.f a0 = some r) :
    Calls Tryz.prog 53 #[.int .i64 a0] w fun e w' => e = .returned (.string r) ∧ Below w.heap.size w w' := by
  unfold strconv_Itoa.f at h
  by_cases h0 : -9223372036854775808 ≤ a0
  · by_cases h1 : a0 ≤ 9223372036854775807
    · rw [if_pos h0, if_pos h1] at h
      obtain rfl := Option.some.inj h
      refine (Tryz.strconv_Itoa a0 h0 h1 w hG.1).mono ?_
      rintro e w' ⟨rfl, k, os, rfl⟩
      exact ⟨rfl, zXE w k os⟩
    · rw [if_pos h0, if_neg h1] at h
      cases h
  · rw [if_neg h0] at h
    cases h
end Go.Proofs.YtholbmidciapdaaGreatDoor.X
