/-
A part of what these laws rest on: contracts of the functions that they reach, and plain lemmas.
-/
import Derived.Test.YtmjglehdckgcnaaGreatDoorProg
import Derived.ChangeArms
import Derived.DataReads
import Derived.Lib.LaidTab
import Derived.Lib.SmallJoins
import Derived.Carry
import Derived.Test.YtmjglehdckgcnaaGreatDoorRows
import Derived.Lib.ItoaNum
import Derived.LaidLaws
import Derived.Shelf.Vars
import Derived.Maps.OwnSet
import Derived.Maps.RangeWalk
import Derived.Maps.Views
import Derived.StringKeys
import Derived.LoopTactic
import Derived.Shelf.Strings.Builder1
import Derived.Shelf.Strings.Builder2
import Derived.Shelf.Strings.Trim
import Derived.Shelf.Small.Utf8
import Derived.Shelf.Small.Strs
import Derived.Shelf.Strings.BuilderF
import Derived.Shelf.Strings.BuilderK
import Derived.Shelf.Strconv.Atoi
import Derived.Shelf.Strconv.Itoa0
import Derived.Shelf.Strconv.Itoa1
import Derived.Shelf.LaysM
import Derived.Shelf.Strconv.Itoa2
import Derived.Shelf.Strconv.Itoa3
import Derived.Shelf.Strconv.AtoiErrFast
import Derived.Shelf.Strconv.ParseIntEmpty
import Derived.Shelf.Strconv.AtoiFail
import Derived.Shelf.Strconv.Clone
import Derived.Shelf.Strconv.SyntaxError
import Derived.Shelf.LaysC
import Derived.Shelf.Strconv.ToError
import Derived.Shelf.Strconv.Lower
import Derived.Shelf.Strconv.ParseUint10
import Derived.Shelf.Strconv.ParseUint10Empty
import Derived.Shelf.Strconv.ParseUint10Any
import Derived.Shelf.Strconv.ParseInt10
import Derived.Shelf.Strconv.AtoiLong
import Derived.Shelf.Strconv.AtoiInnerAll
import Derived.Shelf.Strconv.RangeError
import Derived.Shelf.Strconv.ToErrorRange
import Derived.Shelf.Strconv.AtoiAll
import Derived.Shelf.Strconv.ErrVarAll
import Derived.Shelf.Strings.Search1
import Derived.Shelf.Strings.Search2
import Derived.Shelf.Strings.Cut
import Derived.Shelf.Strings.Shaped
import Derived.Shelf.Strings.Prefix
import Derived.Shelf.Unicode.Decode
import Derived.Shelf.Strings.Runes
import Derived.Shelf.Strings.AsciiSet
import Derived.Shelf.Bits.Mul64
import Derived.Shelf.Strings.Repeat
import Derived.Shelf.Unicode.DecodeSlow
import Derived.Shelf.Unicode.DecodeAny
import Derived.Shelf.Unicode.DecodeLast
import Derived.Lib.AtoiAll
import Derived.Lib.IndexMore
import Derived.Lib.Split
import Derived.Shelf.Strings.SlTrimAscii
import Derived.Lib.SlTrimSet
import Derived.Test.YtmjglehdckgcnaaGreatDoorUnitTextsA
set_option linter.unusedVariables false
set_option linter.unusedSimpArgs false
namespace Go.Proofs.YtmjglehdckgcnaaGreatDoor.Pr
open Go.RowKit Go.Proofs.YtmjglehdckgcnaaGreatDoorW.PrintWords Go.Proofs.YtmjglehdckgcnaaGreatDoorW.PrintLast Go.Proofs.YtmjglehdckgcnaaGreatDoorW.PrintMore
attribute [local go_sem] max2_int min2_int max_two min_two max_three min_three max_four min_four   -- for this text's walks alone
set_option linter.unusedVariables false
set_option linter.unusedSimpArgs false
def errW : Option Int → Value
 | none => .nilIface
 | some c => .iface 0 (.int .i64 c)
theorem errW_none : errW none = .nilIface := rfl
theorem errW_some (c : Int) : errW (some c) = .iface 0 (.int .i64 c) := rfl
structure S23 where
 f0 : Int
 f1 : Int
def z23 : S23 := ⟨(0 : Int), (0 : Int)⟩
def k23 : Kd S23 := Kd.iso (Kd.pair (Kd.int .i64) (Kd.int .i64)) (fun x : S23 => (x.f0, x.f1))
theorem k23_open {w : World} {x : S23} {cs : List Value} (h : k23.K w x cs) : cs = [.int .i64 x.f0, .int .i64 x.f1] := by
 obtain ⟨_, _, rfl, rfl, rfl⟩ := h
 exact rfl
theorem k23_mk (w : World) (x : S23)  : k23.K w x [.int .i64 x.f0, .int .i64 x.f1] := ⟨[.int .i64 x.f0], [.int .i64 x.f1], rfl, rfl, rfl⟩
theorem k23_mkM (w : World) (base : Nat) (ok : Nat → Prop) (x : S23)  : k23.M w base ok x [.int .i64 x.f0, .int .i64 x.f1] := ⟨[.int .i64 x.f0], [.int .i64 x.f1], rfl, rfl, rfl⟩
def rd_T23 (xs : List S23) (i : Int) : S23 := xs.getD i.toNat z23
theorem at_T23 {w : World} {A : Option Addr} {n : Nat} {xs : List S23} (h : Kd.C k23 w A n xs) (i : Int) (h0 : 0 ≤ i) (h1 : i < n) : ∃ ad , A = some ad ∧ w.cell? (ad.add (i.toNat * 2)) = some (.int .i64 (rd_T23 xs i).f0) ∧ w.cell? ⟨(ad.add (i.toNat * 2)).block, (ad.add (i.toNat * 2)).off + 1, none⟩ = some (.int .i64 (rd_T23 xs i).f1) := by
 obtain ⟨ad, c, e, _, hK, hc0⟩ := Kd.C_get h z23 i h0 h1
 have hc : ∀ j u, c[j]? = some u → w.cell? (ad.add (i.toNat * 2 + j)) = some u := hc0
 obtain rfl := k23_open hK
 exact ⟨ad, e, hc 0 _ rfl, by rw [← add_field _ _ 1 (by omega)]; exact hc 1 _ rfl⟩
def rd_L3 (xs : List (List ByteArray)) (i : Int) : (List ByteArray) := xs.getD i.toNat ([] : List ByteArray)
theorem at_L3 {w : World} {A : Option Addr} {n : Nat} {xs : List (List ByteArray)} (h : Kd.C (Kd.slice 9 Kd.string) w A n xs) (i : Int) (h0 : 0 ≤ i) (h1 : i < n) : ∃ ad A0 c0, A = some ad ∧ w.cell? (ad.add i.toNat) = some (.slice A0 (rd_L3 xs i).length c0) ∧ (rd_L3 xs i).length ≤ c0 ∧ Kd.string.C w A0 (rd_L3 xs i).length (rd_L3 xs i) := by
 obtain ⟨ad, c, e, _, hK, hc0⟩ := Kd.C_get h ([] : List ByteArray) i h0 h1
 have hc : ∀ j u, c[j]? = some u → w.cell? (ad.add (i.toNat * 1 + j)) = some u := hc0
 obtain ⟨A0, c0, rfl, l0, g0⟩ := hK
 exact ⟨ad, A0, c0, e, by have hq := hc 0 _ rfl; rwa [Nat.mul_one, Nat.add_zero] at hq, l0, g0⟩
def rd_L4 (xs : List (List Int)) (i : Int) : (List Int) := xs.getD i.toNat ([] : List Int)
theorem at_L4 {w : World} {A : Option Addr} {n : Nat} {xs : List (List Int)} (h : Kd.C (Kd.slice 3 (Kd.int .i64)) w A n xs) (i : Int) (h0 : 0 ≤ i) (h1 : i < n) : ∃ ad A0 c0, A = some ad ∧ w.cell? (ad.add i.toNat) = some (.slice A0 (rd_L4 xs i).length c0) ∧ (rd_L4 xs i).length ≤ c0 ∧ (Kd.int .i64).C w A0 (rd_L4 xs i).length (rd_L4 xs i) := by
 obtain ⟨ad, c, e, _, hK, hc0⟩ := Kd.C_get h ([] : List Int) i h0 h1
 have hc : ∀ j u, c[j]? = some u → w.cell? (ad.add (i.toNat * 1 + j)) = some u := hc0
 obtain ⟨A0, c0, rfl, l0, g0⟩ := hK
 exact ⟨ad, A0, c0, e, by have hq := hc 0 _ rfl; rwa [Nat.mul_one, Nat.add_zero] at hq, l0, g0⟩
end Go.Proofs.YtmjglehdckgcnaaGreatDoor.Pr
namespace Go.Proofs.YtmjglehdckgcnaaGreatDoor.O
open Go Go.RowKit Go.Proofs.YtmjglehdckgcnaaGreatDoorW.PrintWords
/-- What reads as data at type t reads as a value of kind d that is ok. -/
def Opens {α : Type} (P : Program) (t : TypeId) (d : Kd α) (ok : α → Prop) : Prop :=
  P.cellsOf t = d.sz ∧ ∀ (H : Type) (enc : TypeId × Value → H) (w : World) (base : Nat) (sp : Nat → Bool) (held : Bool) (fuel : Nat) (cs : List Value) (x : DataW H × List MemPlace),
    DataW.trod enc P w base sp held fuel t cs = some x → ∃ v : α, d.K w v cs ∧ ok v
theorem opens_int {P : Program} {t : TypeId} {k : IntKind} (ht : P.underlying t = some (.int k)) (hc : P.cellsOf t = 1) : Opens P t (Kd.int k) (fun x => (Lit.int k x).wf = true) :=
  ⟨hc, fun H enc w base sp held fuel cs x h => by
    obtain ⟨n, rfl, _, hw⟩ := DataW.trod_int ht h
    exact ⟨n, rfl, hw⟩⟩
/-- One of the listed variables. -/
theorem laidVars_mem {P : Program} {w : World} {name : String} {d : DataW Unit} : ∀ (l : List (String × DataW Unit)) (ps : List MemPlace), DataW.LaidVars P w l ps → (name, d) ∈ l →
    ∃ g t cs fuel p, P.globalNamed name = some g ∧ (P.globals[g]?).map (·.type) = some t ∧ w.var? P name = some cs ∧ DataW.trod (fun _ => ()) P w 0 (fun _ => true) false fuel t cs.toList = some (d, p)
  | [], _, _, hm => absurd hm (by simp)
  | (n, e) :: r, ps, h, hm => by
    obtain ⟨g, t, cs, fuel, p, q, hg, ht, hv, hd, hr, _⟩ := h
    rcases List.mem_cons.1 hm with hx | hx
    · injection hx with h1 h2
      subst h1
      subst h2
      exact ⟨g, t, cs, fuel, p, hg, ht, hv, hd⟩
    · exact laidVars_mem r q hr hx
theorem tab_of_laid {P : Program} {W : World} {name : String} {k : IntKind} {zs : List Int} {laid : List (String × DataW Unit)} {g : Nat} {t e : TypeId} {n : Nat}
    (hg : P.globalNamed name = some g) (hty : (P.globals[g]?).map (·.type) = some t) (ht : P.underlying t = some (.array n e)) (he : P.underlying e = some (.int k)) (hce : P.cellsOf e = 1) (hct : P.cellsOf t = n)
    (h : laidMet P laid W) (hm : (name, Lib.tabData k zs) ∈ laid) : Lib.TabIs P W name k zs := by
  obtain ⟨ps, hl, _⟩ := h
  obtain ⟨g', t', cs, fuel, p, hg', ht', hvar, hd⟩ := laidVars_mem laid ps hl hm
  obtain rfl := Option.some.inj (hg.symm.trans hg')
  obtain rfl := Option.some.inj (hty.symm.trans ht')
  unfold Lib.TabIs
  rw [hvar, ← Lib.cells_of_tab ht he hce hct hd]
end Go.Proofs.YtmjglehdckgcnaaGreatDoor.O
namespace Go.Proofs.YtmjglehdckgcnaaGreatDoor.X
open Go Go.RowKit
/-- What a variable holds stays where all that lay stays. -/
theorem var_below {P : Program} {w w' : World} {name : String} {cs : Array Value} (h : w.var? P name = some cs) (hb : Below w.heap.size w w') : w'.var? P name = some cs := by
  unfold World.var? at *
  cases hg : P.globalNamed name with
  | none => simp [hg] at h
  | some g =>
    simp only [hg, Option.bind_some] at h ⊢
    have hlt : g < w.heap.size := by
      rcases Nat.lt_or_ge g w.heap.size with h' | h'
      · exact h'
      · rw [Array.getElem?_eq_none h'] at h; simp at h
    rw [hb.block g hlt]
    exact h
/-- A variable of an interface's type, out of what is laid. -/
theorem iface_of_laid {P : Program} {W : World} {name tname : String} {d : DataW Unit} {laid : List (String × DataW Unit)} {g : Nat} {ti : TypeId} {ms : Array (String × TypeId)}
    (hg : P.globalNamed name = some g) (hty : (P.globals[g]?).map (·.type) = some ti) (hi : P.underlying ti = some (.interface ms)) (h : laidMet P laid W) (hm : (name, .iface tname d) ∈ laid) :
    ∃ u v, W.var? P name = some #[.iface u v] := by
  obtain ⟨ps, hl, _⟩ := h
  obtain ⟨g', t', cs, fuel, p, hg', ht', hvar, hd⟩ := O.laidVars_mem laid ps hl hm
  obtain rfl := Option.some.inj (hg.symm.trans hg')
  obtain rfl := Option.some.inj (hty.symm.trans ht')
  obtain ⟨_, u, v, e, _, _⟩ := iface_of_trod hi hd
  refine ⟨u, v, hvar.trans (congrArg some ?_)⟩
  obtain ⟨l⟩ := cs
  exact congrArg Array.mk e
/-- The table of the powers of ten, strconv's two errors, and some number where internal/bytealg.MaxLen lies. -/
def GI (w : World) : Prop := Lib.TabIs Tryz.prog w "internal/strconv.uint64pow10" .u64 Lib.pow10Tab ∧ (∃ tp p, w.var? Tryz.prog "strconv.ErrSyntax" = some #[.iface tp p]) ∧ (∃ tp p, w.var? Tryz.prog "strconv.ErrRange" = some #[.iface tp p]) ∧ ∃ m, w.cell? ⟨0, 0, none⟩ = some (.int .i64 m)
theorem GI.below {w w' : World} (h : GI w) (hb : Below w.heap.size w w') : GI w' := by
  obtain ⟨h1, ⟨tp, p, h2⟩, ⟨tp2, p2, h3⟩, m, h4⟩ := h
  exact ⟨var_below h1 hb, ⟨tp, p, var_below h2 hb⟩, ⟨tp2, p2, var_below h3 hb⟩, m, (hb.cell (World.block_lt_of_cell? w _ h4)).trans h4⟩
theorem GI.drewN {w : World} (h : GI w) (n : Nat) : GI (w.drewN n) := h
theorem GI.drew {w : World} (h : GI w) : GI w.drew := h
theorem GI.max {w : World} (h : GI w) : ∃ m, w.cell? ⟨0, 0, none⟩ = some (.int .i64 m) := h.2.2.2
theorem GI.of_laid {W : World} (laid : List (String × DataW Unit)) (hm1 : ("internal/strconv.uint64pow10", Rows.laid_internal_strconv_uint64pow10) ∈ laid) (hm2 : ("strconv.ErrSyntax", Rows.laid_strconv_ErrSyntax) ∈ laid) (hm3 : ("strconv.ErrRange", Rows.laid_strconv_ErrRange) ∈ laid)
    (h : laidMetH Tryz.prog laid W) (hsh : W.ShapedOpen Tryz.prog) (hp : (laid.filter fun x => x.2.handleName?.isSome) = [] := by kernel_rfl) : GI W := by
  unfold laidMetH at h
  rw [hp] at h
  refine ⟨O.tab_of_laid (g := 3) (t := 127) (e := 93) (n := 20) (by kernel_rfl) (by kernel_rfl) Tryz.underlying127 Tryz.underlying93 (by kernel_rfl) (by kernel_rfl) h hm1, ?_, ?_, ?_⟩
  · exact iface_of_laid (g := 1) (ti := 51) (by kernel_rfl) (by kernel_rfl) Tryz.underlying51 h hm2
  · exact iface_of_laid (g := 2) (ti := 51) (by kernel_rfl) (by kernel_rfl) Tryz.underlying51 h hm3
  · exact cell_of_shapedOpen_int (t := 3) (zero := #[.int .i64 0]) hsh (of_decide_eq_true (by kernel_rfl)) (by kernel_rfl) rfl (by kernel_rfl) (by kernel_rfl) Tryz.underlying3
end Go.Proofs.YtmjglehdckgcnaaGreatDoor.X
namespace Go.Proofs.YtmjglehdckgcnaaGreatDoor.Pr
open Go.RowKit Go.Proofs.YtmjglehdckgcnaaGreatDoorW.PrintWords Go.Proofs.YtmjglehdckgcnaaGreatDoorW.PrintLast Go.Proofs.YtmjglehdckgcnaaGreatDoorW.PrintMore Go.Proofs.YtmjglehdckgcnaaGreatDoor.X
attribute [local go_sem] max2_int min2_int max_two min_two max_three min_three max_four min_four   -- for this text's walks alone
set_option linter.unusedVariables false
set_option linter.unusedSimpArgs false
theorem eqA23 (d : Nat) (w : World) (x0 y0 : Int) (x1 y1 : Int) :
  (Op.equalIn (d + 2) 23 (.agg #[.int .i64 x0, .int .i64 x1]) (.agg #[.int .i64 y0, .int .i64 y1])).run Tryz.prog w = .ok (x0 == y0 && (x1 == y1)) w := by
 refine eqA_of Tryz.underlying23 (by kernel_rfl) ?_
 refine eqf_cons (by rfl) (by go_simp; rfl) (by go_simp; rfl) (by go_simp) ?_
 exact eqf_last (by rfl) (by go_simp; rfl) (by go_simp; rfl) (by go_simp)
end Go.Proofs.YtmjglehdckgcnaaGreatDoor.Pr
namespace Go.Proofs.YtmjglehdckgcnaaGreatDoor.Pr
open Go.RowKit Go.Proofs.YtmjglehdckgcnaaGreatDoorW.PrintWords Go.Proofs.YtmjglehdckgcnaaGreatDoorW.PrintLast Go.Proofs.YtmjglehdckgcnaaGreatDoorW.PrintMore Go.Proofs.YtmjglehdckgcnaaGreatDoor.X
attribute [local go_sem] max2_int min2_int max_two min_two max_three min_three max_four min_four   -- for this text's walks alone
set_option linter.unusedVariables false
set_option linter.unusedSimpArgs false
def unit_limits.f (a0 : Int) : Option (Int × Int) := if a0 = 5 then (some ((-400), 600)) else ((some (([0, 1073741824, 10000, 10737418240000, 128849018880000, 0, 100000, 1125899906842624] : List Int) : List Int)).bind fun y101 => (if 0 ≤ a0 then (if a0 < (y101.length : Int) then (some (0, rd y101 a0)) else (none)) else (none)))
set_option maxHeartbeats 8000000 in
set_option maxRecDepth 100000 in
theorem unit_limits.calls (a0 : Int) (r1 : Int) (r2 : Int) (w : World) (h : unit_limits.f a0 = some (r1, r2)) :
    Calls Tryz.prog 32 #[.int .i64 a0] w fun e w' => e = .returned (.tuple #[.int .i64 r1, .int .i64 r2]) ∧ Below w.heap.size w w' := by
  have HB := Aside0.mk (Below.refl w.heap.size w)
  have H : (if a0 = 5 then (some ((-400), 600)) else ((some (([0, 1073741824, 10000, 10737418240000, 128849018880000, 0, 100000, 1125899906842624] : List Int) : List Int)).bind fun y101 => (if 0 ≤ a0 then (if a0 < (y101.length : Int) then (some (0, rd y101 a0)) else (none)) else (none)))) = some (r1, r2) := h
  clear h
  by_cases c2 : a0 = 5
  · rw [if_pos c2] at H
    have c2b0 : (a0 == 5) = true := beq_iff_eq.mpr c2
    have c2b1 : (a0 != 5) = false := bne_eq_false_iff_eq.mpr c2
    clear c2
    simp only [Option.some.injEq, Prod.mk.injEq] at H
    obtain ⟨rfl, rfl⟩ := H
    go_enter Tryz.func32, Tryz.ntmps32
    go_wp2
    go_ret2
    exact ⟨by first | rfl | (simp [errW_none, errW_some] <;> rfl) | (simp [*, errW_none, errW_some] <;> rfl), by repeat (first | (with_reducible first | exact HB.out | apply below_alloc | apply pw_below_drewN | apply below_drew1) | exact HB.out)⟩
  · rw [if_neg c2] at H
    have c2b0 : (a0 == 5) = false := beq_eq_false_iff_ne.mpr c2
    have c2b1 : (a0 != 5) = true := bne_iff_ne.mpr c2
    obtain ⟨y101, hy101⟩ : ∃ y_ : List Int, y_ = (([0, 1073741824, 10000, 10737418240000, 128849018880000, 0, 100000, 1125899906842624] : List Int)) := ⟨_, rfl⟩
    replace H : (if 0 ≤ a0 then (if a0 < (y101.length : Int) then (some (0, rd y101 a0)) else (none)) else (none)) = some (r1, r2) := by first | (rw [hy101]; with_reducible exact H) | (have H2_ := (Option.bind_some _ _).symm.trans H; rw [hy101]; with_reducible exact H2_) | (have H2_ := (Option.bind_some _ _).symm.trans H; with_reducible exact H2_) | with_reducible exact H | (rw [hy101]; exact H) | exact H
    have Ny101 := Aside0.mk hy101
    clear hy101
    by_cases c3 : 0 ≤ a0
    · rw [if_pos c3] at H
      have c3b0 : decide (0 ≤ a0) = true := decide_eq_true c3
      clear c3
      by_cases c4 : a0 < (y101.length : Int)
      · rw [if_pos c4] at H
        have c4b0 : decide (a0 < (y101.length : Int)) = true := decide_eq_true c4
        clear c4
        simp only [Option.some.injEq, Prod.mk.injEq] at H
        obtain ⟨rfl, rfl⟩ := H
        go_enter Tryz.func32, Tryz.ntmps32
        try go_wp2
        have pi104 : (0 ≤ (a0 : Int)) = True := eq_true (of_decide_eq_true (by first | (with_reducible assumption) | assumption))
        have qi104 : (a0 < (y101.length : Int)) = True := eq_true (of_decide_eq_true (by first | (with_reducible assumption) | assumption))
        have n0_ := Aside0.mk (below_drew1 HB.out)
        clear HB
        have HB := n0_
        clear n0_
        refine start_ (n := 6) (S := fun w' => True) (ds := []) #[false, false, false, false, false, false] (by kernel_rfl) rfl rfl trivial (fun hHeld => ?_)
        generalize w.drew = w5 at HB hHeld ⊢
        refine pure_ (i := 1) (N := some 7) (v := ?_) (a' := ?_) #[false, true, false, false, false, false] rfl rfl (by kernel_rfl) (fun _ _ _ h => h) (Or.inl ⟨by rfl, ?_⟩) ?_ ?_
        rotate_left
        · intro w'
          go_simp
          with_reducible rfl
        rotate_left
        · simp only [Act.put, List.setIfInBounds_toArray, List.set_cons_zero, List.set_cons_succ, i64_w, i32_w]
          rfl
        refine pure_ (i := 4) (N := some 2) (v := ?_) (a' := ?_) #[false, true, false, false, true, false] rfl rfl (by kernel_rfl) (fun _ _ _ h => h) (Or.inl ⟨by rfl, ?_⟩) ?_ ?_
        rotate_left
        · intro w'
          go_simp
          with_reducible rfl
        rotate_left
        · simp only [Act.put, List.setIfInBounds_toArray, List.set_cons_zero, List.set_cons_succ, i64_w, i32_w]
          rfl
        refine one_ (i := 0) (N := some 6) #[true, true, false, false, true, false] rfl rfl (by kernel_rfl) (by decide) (fun K hK => ?_)
        refine Kd.R_lit_step (Kd.int .i64) _ 3 ?hg (N := 6) ?hd (xs := ([0, 1073741824, 10000, 10737418240000, 128849018880000, 0, 100000, 1125899906842624] : List Int)) (inner := [.int .i64 0, .int .i64 1073741824, .int .i64 10000, .int .i64 10737418240000, .int .i64 128849018880000, .int .i64 0, .int .i64 100000, .int .i64 1125899906842624]) (ok := fun _ => True) (okp := fun _ => True) ?hr ?hp (fun _ hk => hk) trivial (Below.refl _ _) (Nat.le_refl _) (by simp) ?_; (case hd => rfl); (case hg => rfl); (case hr => first | (go_simp; done) | (go_simp; rfl)); (case hp => exact (Reps.one (show Kd.M (Kd.int .i64) _ _ _ 0 [.int .i64 0] from rfl) (Reps.one (show Kd.M (Kd.int .i64) _ _ _ 1073741824 [.int .i64 1073741824] from rfl) (Reps.one (show Kd.M (Kd.int .i64) _ _ _ 10000 [.int .i64 10000] from rfl) (Reps.one (show Kd.M (Kd.int .i64) _ _ _ 10737418240000 [.int .i64 10737418240000] from rfl) (Reps.one (show Kd.M (Kd.int .i64) _ _ _ 128849018880000 [.int .i64 128849018880000] from rfl) (Reps.one (show Kd.M (Kd.int .i64) _ _ _ 0 [.int .i64 0] from rfl) (Reps.one (show Kd.M (Kd.int .i64) _ _ _ 100000 [.int .i64 100000] from rfl) (Reps.one (show Kd.M (Kd.int .i64) _ _ _ 1125899906842624 [.int .i64 1125899906842624] from rfl) (Reps.none _ _))))))))))
        intro v102 w6 ho7 hb hg_ hnew_
        clear hg_ hnew_
        (first | rw [← Ny101.out] at ho7 | (simp only [Int.reduceToNat] at ho7; rw [← Ny101.out] at ho7))
        have n0_ := Aside0.mk (Kd.R_lower ho7 (below_size (by repeat (first | (with_reducible first | exact HB.out | apply below_alloc | apply pw_below_drewN | apply below_drew1) | exact HB.out))))
        have n1_ := Aside0.mk (below_step (by repeat (first | (with_reducible first | exact HB.out | apply below_alloc | apply pw_below_drewN | apply below_drew1) | exact HB.out)) hb)
        clear HB
        have HO103 := n0_
        have HB := n1_
        clear n0_ n1_
        clear hb ho7
        obtain ⟨Ao8, co8, eo8⟩ := Kd.R_slice HO103.out
        subst eo8
        obtain ⟨ado8, fo8, _⟩ := Kd.at_int (Kd.R_reads' HO103.out).2.2 0 (by decide) (by rw [Ny101.out]; simp)
        cases fo8
        refine hK.out _ _ trivial (fun hHeld => ?_)
        clear hK K
        refine norm_ (a' := ?_) ?_ ?_
        rotate_left
        · show Act.put _ (some 6) _ = _
          simp only [Act.put, List.setIfInBounds_toArray, List.set_cons_zero, List.set_cons_succ, i64_w, i32_w]
          rfl
        refine pure_ (i := 2) (N := some 8) (v := ?_) (a' := ?_) #[true, true, true, false, true, false] rfl rfl (by kernel_rfl) (fun _ _ _ h => h) (Or.inl ⟨by rfl, ?_⟩) ?_ ?_
        rotate_left
        · intro w'
          go_simp
          with_reducible rfl
        rotate_left
        · simp only [Act.put, List.setIfInBounds_toArray, List.set_cons_zero, List.set_cons_succ, i64_w, i32_w]
          rfl
        refine one_ (i := 3) (N := some 9) #[true, true, true, true, true, false] rfl rfl (by kernel_rfl) (by decide) (fun K hK => ?_)
        (have p104 : 0 ≤ (a0 : Int) := of_decide_eq_true (by first | (with_reducible assumption) | assumption); have q104 : a0 < (y101.length : Int) := of_decide_eq_true (by first | (with_reducible assumption) | assumption); obtain ⟨ad104, e104, hx104_0⟩ := Kd.at_int (Kd.R_reads' HO103.out).2.2 a0 p104 q104; obtain rfl : ado8 = ad104 := (by injection e104))
        refine value_ (w1 := ?_) (v := ?_) (by rfl) rfl ?_ ?_
        rotate_left 2
        · go_simp
          constructor
          · rfl
          · rfl
        clear hx104_0
        refine hK.out _ _ trivial (fun hHeld => ?_)
        clear hK K
        refine norm_ (a' := ?_) ?_ ?_
        rotate_left
        · show Act.put _ (some 9) _ = _
          simp only [Act.put, List.setIfInBounds_toArray, List.set_cons_zero, List.set_cons_succ, i64_w, i32_w]
          rfl
        refine pure_ (i := 5) (N := some 3) (v := ?_) (a' := ?_) #[true, true, true, true, true, true] rfl rfl (by kernel_rfl) (fun _ _ _ h => h) (Or.inl ⟨by rfl, ?_⟩) ?_ ?_
        rotate_left
        · intro w'
          go_simp
          with_reducible rfl
        rotate_left
        · simp only [Act.put, List.setIfInBounds_toArray, List.set_cons_zero, List.set_cons_succ, i64_w, i32_w]
          rfl
        refine done_ (by kernel_rfl) ?_
        try go_wp2
        go_ret2
        exact ⟨by first | rfl | (simp [errW_none, errW_some] <;> rfl) | (simp [*, errW_none, errW_some] <;> rfl), by repeat (first | (with_reducible first | exact HB.out | apply below_alloc | apply pw_below_drewN | apply below_drew1) | exact HB.out)⟩
      · rw [if_neg c4] at H
        exact absurd H (by simp)
    · rw [if_neg c3] at H
      exact absurd H (by simp)
def unit_Check.j0 : Nat → Bool → Int → Int → Option (Int)
  | 0, _, _, _ => none
  | k + 1, x12, x106000, x106001 => if x12 = true then (some 1) else ((unit_limits.f x106000).bind fun bt106 => (if x106001 < bt106.1 then (some 2) else (if x106001 > bt106.2 then (some 2) else (some 0))))
def unit_Check.f (k : Nat) (a0_0 : Int) (a0_1 : Int) : Option (Int) := if a0_0 < 1 then (unit_Check.j0 k true a0_0 a0_1) else (unit_Check.j0 k (decide (a0_0 > 7)) a0_0 a0_1)
theorem unit_Check.mono_l : ∀ k, (∀ y0 y1 y2, LeO (unit_Check.j0 k y0 y1 y2) (unit_Check.j0 (k + 1) y0 y1 y2))
  | 0 => fun _ _ _ r h => by simp [unit_Check.j0] at h
  | k + 1 => by
    have ih0 := unit_Check.mono_l k
    · intro y0 y1 y2
      unfold unit_Check.j0
      repeat' first
      | (with_reducible exact ih0 _ _ _)
      | (with_reducible exact LeO.refl _)
      | (with_reducible exact LeO.none _)
      | (with_reducible refine LeO.ite ?_ ?_)
      | (with_reducible refine LeO.bind ?_ (fun _ => ?_))
      | exact ih0 _ _ _
      | exact LeO.none _
      | refine LeO.ite ?_ ?_
      | refine LeO.bind ?_ (fun _ => ?_)
theorem unit_Check.mono : ∀ a0 a1 k, LeO (unit_Check.f k a0 a1) (unit_Check.f (k + 1) a0 a1) := by
  intro a0 a1 k
  have ih0 := unit_Check.mono_l k
  unfold unit_Check.f
  repeat' first
      | (with_reducible exact ih0 _ _ _)
      | (with_reducible exact LeO.refl _)
      | (with_reducible exact LeO.none _)
      | (with_reducible refine LeO.ite ?_ ?_)
      | (with_reducible refine LeO.bind ?_ (fun _ => ?_))
      | exact ih0 _ _ _
      | exact LeO.none _
      | refine LeO.ite ?_ ?_
      | refine LeO.bind ?_ (fun _ => ?_)
set_option maxHeartbeats 8000000 in
set_option maxRecDepth 100000 in
theorem unit_Check.calls (k : Nat) (a0_0 : Int) (a0_1 : Int) (r : Int) (w : World) (h : unit_Check.f k a0_0 a0_1 = some r) :
    Calls Tryz.prog 12 #[.agg #[.int .i64 a0_0, .int .i64 a0_1]] w fun e w' => e = .returned (.int .i64 r) ∧ Below w.heap.size w w' := by
  have hu23 := Tryz.underlying23
  have HB := Aside0.mk (Below.refl w.heap.size w)
  have H : (if a0_0 < 1 then (unit_Check.j0 k true a0_0 a0_1) else (unit_Check.j0 k (decide (a0_0 > 7)) a0_0 a0_1)) = some r := h
  clear h
  have HC2 := Aside0.mk H
  clear H
  go_enter Tryz.func12, Tryz.ntmps12
  go_upto_region 1 with (first | ((with_reducible refine gate_dst (N := 1) rfl ?_); refine box_event ?hg (N := 1) ?hd (cs := #[.int .i64 a0_0, .int .i64 a0_1]) (t := 23) ?hr ?_; (case hd => rfl); (case hg => rfl); (case hr => first | (go_simp; done) | (go_simp; rfl)); intro gb105 hg w3 hbox hb; have n0_ := Aside0.mk (below_step (by repeat (first | (with_reducible first | exact HB.out | apply below_alloc | apply pw_below_drewN | apply below_drew1) | exact HB.out)) hb); have n1_ := Aside0.mk (hbox); have n2_ := Aside0.mk ((by rw [hg]; exact (below_size (by repeat (first | (with_reducible first | exact HB.out | apply below_alloc | apply pw_below_drewN | apply below_drew1) | exact HB.out))) : w.heap.size ≤ gb105)); have n3_ := Aside0.mk ((by rw [hg]; exact (below_size (by repeat (first | (with_reducible first | exact HB.out | apply below_alloc | apply pw_below_drewN | apply below_drew1) | exact HB.out))) : w.heap.size ≤ gb105)); clear HB; have HB := n0_; have BK105 := n1_; have GW105 := n2_; have GE105 := n3_; clear n0_ n1_ n2_ n3_; clear hb hbox hg))
  (try simp only [Act.put, List.setIfInBounds_toArray, List.set_cons_zero, List.set_cons_succ])
  go_cut [12] (fun v12 wc => ∃ (kq : Nat) (x12_1 : Bool), v12 = .bool x12_1 ∧ Aside0 (unit_Check.j0 kq x12_1 a0_0 a0_1 = some r) ∧ Aside0 (kq ≤ k) ∧ Aside0 (wc.heap[gb105]? = some (.cells #[.int .i64 a0_0, .int .i64 a0_1] 23 (0, 0))) ∧ Aside0 (Below w.heap.size w wc))
  case first =>
    have H := HC2.out
    clear HC2
    by_cases c4 : a0_0 < 1
    · rw [if_pos c4] at H
      have c4b0 : decide (a0_0 < 1) = true := decide_eq_true c4
      clear c4
      (first | rw [c4b0] | (simp only [i64_w, i32_w]; rw [c4b0]) | skip)
      have H' := Aside0.mk H
      clear H
      have hcz5_0 : w3.cell? ⟨gb105, 0, none⟩ = some (.int .i64 a0_0) := (blk_cell BK105.out 0).trans rfl
      have hcz5_1 : w3.cell? ⟨gb105, 1, none⟩ = some (.int .i64 a0_1) := (blk_cell BK105.out 1).trans rfl
      have hfz5_0 := blk_frozen BK105.out 0
      have hfz5_1 := blk_frozen BK105.out 1
      go_wp2
      go_meet
      case rel => exact ⟨_, (true), (by first | rfl | (simp; done) | (simp [*]; done)), H', ⟨by first | omega | exact Nat.le_refl _⟩, ⟨by (with_reducible repeat (first | refine blk_drewN ?_ _ | refine blk_drew ?_ | refine blk_alloc ?_ _)); exact BK105.out⟩, ⟨by repeat (first | (with_reducible first | exact HB.out | apply below_alloc | apply pw_below_drewN | apply below_drew1 | refine below_set ?_ GE105.out) | exact HB.out)⟩⟩
    · rw [if_neg c4] at H
      have c4b0 : decide (a0_0 < 1) = false := decide_eq_false c4
      clear c4
      (first | rw [c4b0] | (simp only [i64_w, i32_w]; rw [c4b0]) | skip)
      have H' := Aside0.mk H
      clear H
      have hcz6_0 : w3.cell? ⟨gb105, 0, none⟩ = some (.int .i64 a0_0) := (blk_cell BK105.out 0).trans rfl
      have hcz6_1 : w3.cell? ⟨gb105, 1, none⟩ = some (.int .i64 a0_1) := (blk_cell BK105.out 1).trans rfl
      have hfz6_0 := blk_frozen BK105.out 0
      have hfz6_1 := blk_frozen BK105.out 1
      go_wp2
      go_meet
      case rel => exact ⟨_, (decide (a0_0 > 7)), (by first | rfl | (simp; done) | (simp [*]; done)), H', ⟨by first | omega | exact Nat.le_refl _⟩, ⟨by (with_reducible repeat (first | refine blk_drewN ?_ _ | refine blk_drew ?_ | refine blk_alloc ?_ _)); exact BK105.out⟩, ⟨by repeat (first | (with_reducible first | exact HB.out | apply below_alloc | apply pw_below_drewN | apply below_drew1 | refine below_set ?_ GE105.out) | exact HB.out)⟩⟩
  case rest =>
    clear HC2
    try clear c1
    try clear p2
    try clear c4
    try clear c4b0
    try clear hcz5_0
    try clear hcz5_1
    try clear hcz6_0
    try clear hcz6_1
    try clear hfz5_0
    try clear hfz5_1
    try clear hfz6_0
    try clear hfz6_1
    obtain ⟨kq, x12_1, rfl, HA, HJ1, BK105, HB⟩ := hcut
    cases kq with
    | zero => exact absurd HA.out (by simp [unit_Check.j0])
    | succ kj1 =>
      have H := HA.out
      clear HA
      simp only [unit_Check.j0] at H
      by_cases c7 : x12_1 = true
      · subst c7
        have H1 : (some 1) = some r := by rw [if_pos rfl] at H; exact H
        clear H
        have H := H1
        clear H1
        obtain rfl := Option.some.inj H
        go_wp2
        go_ret
        exact ⟨by first | rfl | (simp [errW_none, errW_some] <;> rfl) | (simp [*, errW_none, errW_some] <;> rfl), by repeat (first | (with_reducible first | exact HB.out | apply below_alloc | apply pw_below_drewN | apply below_drew1 | refine below_set ?_ GE105.out) | exact HB.out)⟩
      · replace c7 := Bool.eq_false_iff.mpr c7
        subst c7
        have H1 : ((unit_limits.f a0_0).bind fun bt106 => (if a0_1 < bt106.1 then (some 2) else (if a0_1 > bt106.2 then (some 2) else (some 0)))) = some r := by rw [if_neg (show ¬ (false = true) by decide)] at H; exact H
        clear H
        have H := H1
        clear H1
        replace H := Option.bind_eq_some_iff.mp H
        obtain ⟨⟨t106, t107⟩, A80, H⟩ := H
        replace H : (if a0_1 < t106 then (some 2) else (if a0_1 > t107 then (some 2) else (some 0))) = some r := H
        have A8 := Aside0.mk A80
        clear A80
        by_cases c9 : a0_1 < t106
        · rw [if_pos c9] at H
          have c9b0 : decide (a0_1 < t106) = true := decide_eq_true c9
          clear c9
          obtain rfl := Option.some.inj H
          have hcz10_0 : wc.cell? ⟨gb105, 0, none⟩ = some (.int .i64 a0_0) := (blk_cell BK105.out 0).trans rfl
          have hcz10_1 : wc.cell? ⟨gb105, 1, none⟩ = some (.int .i64 a0_1) := (blk_cell BK105.out 1).trans rfl
          have hfz10_0 := blk_frozen BK105.out 0
          have hfz10_1 := blk_frozen BK105.out 1
          go_wp2_with (first | ((with_reducible refine gate_callee (f := 32) rfl ?_); refine goesL_ (some 16) rfl rfl Tryz.func32 (by kernel_rfl) rfl #[.int .i64 a0_0] rfl (by (try simp only [List.map_toArray, List.map_cons, List.map_nil]); first | done | rfl | (simp only [List.length_drop, List.length_take]; rfl)) ?_; (with_reducible refine (unit_limits.calls a0_0 t106 t107 _ A8.out).mono ?_); rintro e w11 ⟨rfl, hb⟩; refine ⟨_, rfl, ?_⟩; have n0_ := Aside0.mk (blk_below (g := gb105) (o := .cells #[.int .i64 a0_0, .int .i64 a0_1] 23 (0, 0)) (by (with_reducible repeat (first | refine blk_drewN ?_ _ | refine blk_drew ?_ | refine blk_alloc ?_ _)); exact BK105.out) hb); have n1_ := Aside0.mk (below_step (by repeat (first | (with_reducible first | exact HB.out | apply below_alloc | apply pw_below_drewN | apply below_drew1 | refine below_set ?_ GE105.out) | exact HB.out)) hb); clear BK105; clear HB; have BK105 := n0_; have HB := n1_; clear n0_ n1_; (try clear hb); (try clear hb2); (try clear hk); (try clear hi); have hcz12_0 : w11.cell? ⟨gb105, 0, none⟩ = some (.int .i64 a0_0) := (blk_cell BK105.out 0).trans rfl; have hcz12_1 : w11.cell? ⟨gb105, 1, none⟩ = some (.int .i64 a0_1) := (blk_cell BK105.out 1).trans rfl; have hfz12_0 := blk_frozen BK105.out 0; have hfz12_1 := blk_frozen BK105.out 1))
          go_ret
          exact ⟨by first | rfl | (simp [errW_none, errW_some] <;> rfl) | (simp [*, errW_none, errW_some] <;> rfl), by repeat (first | (with_reducible first | exact HB.out | apply below_alloc | apply pw_below_drewN | apply below_drew1 | refine below_set ?_ GE105.out) | exact HB.out)⟩
        · rw [if_neg c9] at H
          have c9b0 : decide (a0_1 < t106) = false := decide_eq_false c9
          clear c9
          by_cases c13 : a0_1 > t107
          · rw [if_pos c13] at H
            have c13b0 : decide (t107 < a0_1) = true := decide_eq_true c13
            clear c13
            obtain rfl := Option.some.inj H
            have hcz14_0 : wc.cell? ⟨gb105, 0, none⟩ = some (.int .i64 a0_0) := (blk_cell BK105.out 0).trans rfl
            have hcz14_1 : wc.cell? ⟨gb105, 1, none⟩ = some (.int .i64 a0_1) := (blk_cell BK105.out 1).trans rfl
            have hfz14_0 := blk_frozen BK105.out 0
            have hfz14_1 := blk_frozen BK105.out 1
            go_wp2_with (first | ((with_reducible refine gate_callee (f := 32) rfl ?_); refine goesL_ (some 16) rfl rfl Tryz.func32 (by kernel_rfl) rfl #[.int .i64 a0_0] rfl (by (try simp only [List.map_toArray, List.map_cons, List.map_nil]); first | done | rfl | (simp only [List.length_drop, List.length_take]; rfl)) ?_; (with_reducible refine (unit_limits.calls a0_0 t106 t107 _ A8.out).mono ?_); rintro e w15 ⟨rfl, hb⟩; refine ⟨_, rfl, ?_⟩; have n0_ := Aside0.mk (blk_below (g := gb105) (o := .cells #[.int .i64 a0_0, .int .i64 a0_1] 23 (0, 0)) (by (with_reducible repeat (first | refine blk_drewN ?_ _ | refine blk_drew ?_ | refine blk_alloc ?_ _)); exact BK105.out) hb); have n1_ := Aside0.mk (below_step (by repeat (first | (with_reducible first | exact HB.out | apply below_alloc | apply pw_below_drewN | apply below_drew1 | refine below_set ?_ GE105.out) | exact HB.out)) hb); clear BK105; clear HB; have BK105 := n0_; have HB := n1_; clear n0_ n1_; (try clear hb); (try clear hb2); (try clear hk); (try clear hi); have hcz16_0 : w15.cell? ⟨gb105, 0, none⟩ = some (.int .i64 a0_0) := (blk_cell BK105.out 0).trans rfl; have hcz16_1 : w15.cell? ⟨gb105, 1, none⟩ = some (.int .i64 a0_1) := (blk_cell BK105.out 1).trans rfl; have hfz16_0 := blk_frozen BK105.out 0; have hfz16_1 := blk_frozen BK105.out 1))
            go_ret
            exact ⟨by first | rfl | (simp [errW_none, errW_some] <;> rfl) | (simp [*, errW_none, errW_some] <;> rfl), by repeat (first | (with_reducible first | exact HB.out | apply below_alloc | apply pw_below_drewN | apply below_drew1 | refine below_set ?_ GE105.out) | exact HB.out)⟩
          · rw [if_neg c13] at H
            have c13b0 : decide (t107 < a0_1) = false := decide_eq_false c13
            clear c13
            obtain rfl := Option.some.inj H
            have hcz17_0 : wc.cell? ⟨gb105, 0, none⟩ = some (.int .i64 a0_0) := (blk_cell BK105.out 0).trans rfl
            have hcz17_1 : wc.cell? ⟨gb105, 1, none⟩ = some (.int .i64 a0_1) := (blk_cell BK105.out 1).trans rfl
            have hfz17_0 := blk_frozen BK105.out 0
            have hfz17_1 := blk_frozen BK105.out 1
            go_wp2_with (first | ((with_reducible refine gate_callee (f := 32) rfl ?_); refine goesL_ (some 16) rfl rfl Tryz.func32 (by kernel_rfl) rfl #[.int .i64 a0_0] rfl (by (try simp only [List.map_toArray, List.map_cons, List.map_nil]); first | done | rfl | (simp only [List.length_drop, List.length_take]; rfl)) ?_; (with_reducible refine (unit_limits.calls a0_0 t106 t107 _ A8.out).mono ?_); rintro e w18 ⟨rfl, hb⟩; refine ⟨_, rfl, ?_⟩; have n0_ := Aside0.mk (blk_below (g := gb105) (o := .cells #[.int .i64 a0_0, .int .i64 a0_1] 23 (0, 0)) (by (with_reducible repeat (first | refine blk_drewN ?_ _ | refine blk_drew ?_ | refine blk_alloc ?_ _)); exact BK105.out) hb); have n1_ := Aside0.mk (below_step (by repeat (first | (with_reducible first | exact HB.out | apply below_alloc | apply pw_below_drewN | apply below_drew1 | refine below_set ?_ GE105.out) | exact HB.out)) hb); clear BK105; clear HB; have BK105 := n0_; have HB := n1_; clear n0_ n1_; (try clear hb); (try clear hb2); (try clear hk); (try clear hi); have hcz19_0 : w18.cell? ⟨gb105, 0, none⟩ = some (.int .i64 a0_0) := (blk_cell BK105.out 0).trans rfl; have hcz19_1 : w18.cell? ⟨gb105, 1, none⟩ = some (.int .i64 a0_1) := (blk_cell BK105.out 1).trans rfl; have hfz19_0 := blk_frozen BK105.out 0; have hfz19_1 := blk_frozen BK105.out 1))
            go_ret
            exact ⟨by first | rfl | (simp [errW_none, errW_some] <;> rfl) | (simp [*, errW_none, errW_some] <;> rfl), by repeat (first | (with_reducible first | exact HB.out | apply below_alloc | apply pw_below_drewN | apply below_drew1 | refine below_set ?_ GE105.out) | exact HB.out)⟩
def unit_unit_factor.l0 : Nat → Int → Int → Int → Option (Int)
  | 0, _, _, _ => none
  | k + 1, x3, x5, x6 => if x6 < x5 then (unit_unit_factor.l0 k (wrap64 (x3 * 10)) x5 (wrap64 (x6 + 1))) else (some x3)
def unit_unit_factor.f (k : Nat) (a0_0 : Int) (a0_1 : Int) : Option (Int) := unit_unit_factor.l0 k 1 a0_1 0
theorem unit_unit_factor.mono_l : ∀ k, (∀ y0 y1 y2, LeO (unit_unit_factor.l0 k y0 y1 y2) (unit_unit_factor.l0 (k + 1) y0 y1 y2))
  | 0 => fun _ _ _ r h => by simp [unit_unit_factor.l0] at h
  | k + 1 => by
    have ih0 := unit_unit_factor.mono_l k
    · intro y0 y1 y2
      unfold unit_unit_factor.l0
      repeat' first
      | (with_reducible exact ih0 _ _ _)
      | (with_reducible exact LeO.refl _)
      | (with_reducible exact LeO.none _)
      | (with_reducible refine LeO.ite ?_ ?_)
      | (with_reducible refine LeO.bind ?_ (fun _ => ?_))
      | exact ih0 _ _ _
      | exact LeO.none _
      | refine LeO.ite ?_ ?_
      | refine LeO.bind ?_ (fun _ => ?_)
theorem unit_unit_factor.mono : ∀ a0 a1 k, LeO (unit_unit_factor.f k a0 a1) (unit_unit_factor.f (k + 1) a0 a1) := by
  intro a0 a1 k
  have ih0 := unit_unit_factor.mono_l k
  unfold unit_unit_factor.f
  repeat' first
      | (with_reducible exact ih0 _ _ _)
      | (with_reducible exact LeO.refl _)
      | (with_reducible exact LeO.none _)
      | (with_reducible refine LeO.ite ?_ ?_)
      | (with_reducible refine LeO.bind ?_ (fun _ => ?_))
      | exact ih0 _ _ _
      | exact LeO.none _
      | refine LeO.ite ?_ ?_
      | refine LeO.bind ?_ (fun _ => ?_)
set_option maxHeartbeats 8000000 in
set_option maxRecDepth 100000 in
theorem unit_unit_factor.calls (k : Nat) (a0_0 : Int) (a0_1 : Int) (r : Int) (w : World) (h : unit_unit_factor.f k a0_0 a0_1 = some r) :
    Calls Tryz.prog 28 #[.agg #[.int .i64 a0_0, .int .i64 a0_1]] w fun e w' => e = .returned (.int .i64 r) ∧ Below w.heap.size w w' := by
  have hu38 := Tryz.underlying38
  have HB := Aside0.mk (Below.refl w.heap.size w)
  have H : (unit_unit_factor.l0 k 1 a0_1 0) = some r := h
  clear h
  have H' := Aside0.mk H
  clear H
  go_enter Tryz.func28, Tryz.ntmps28
  go_wp2_with (first | ((with_reducible refine gate_dst (N := 1) rfl ?_); refine box_event ?hg (N := 1) ?hd (cs := #[.int .i64 a0_0, .int .i64 a0_1]) (t := 38) ?hr ?_; (case hd => rfl); (case hg => rfl); (case hr => first | (go_simp; done) | (go_simp; rfl)); intro gb108 hg w2 hbox hb; have n0_ := Aside0.mk (below_step (by repeat (first | (with_reducible first | exact HB.out | apply below_alloc | apply pw_below_drewN | apply below_drew1) | exact HB.out)) hb); have n1_ := Aside0.mk (hbox); have n2_ := Aside0.mk ((by rw [hg]; exact (below_size (by repeat (first | (with_reducible first | exact HB.out | apply below_alloc | apply pw_below_drewN | apply below_drew1) | exact HB.out))) : w.heap.size ≤ gb108)); have n3_ := Aside0.mk ((by rw [hg]; exact (below_size (by repeat (first | (with_reducible first | exact HB.out | apply below_alloc | apply pw_below_drewN | apply below_drew1) | exact HB.out))) : w.heap.size ≤ gb108)); clear HB; have HB := n0_; have BK108 := n1_; have GW108 := n2_; have GE108 := n3_; clear n0_ n1_ n2_ n3_; clear hb hbox hg; have hcz3_0 : w2.cell? ⟨gb108, 0, none⟩ = some (.int .i64 a0_0) := (blk_cell BK108.out 0).trans rfl; have hcz3_1 : w2.cell? ⟨gb108, 1, none⟩ = some (.int .i64 a0_1) := (blk_cell BK108.out 1).trans rfl; have hfz3_0 := blk_frozen BK108.out 0; have hfz3_1 := blk_frozen BK108.out 1))
  go_loopg [3, 6] k (fun kq v3 v6 w' => ∃ (x3_1 : Int) (x6_1 : Int), v3 = .int .i64 x3_1 ∧ v6 = .int .i64 x6_1 ∧ Aside0 (unit_unit_factor.l0 kq x3_1 a0_1 x6_1 = some r) ∧ Aside0 (kq ≤ k) ∧ Aside0 (w'.heap[gb108]? = some (.cells #[.int .i64 a0_0, .int .i64 a0_1] 38 (0, 0))) ∧ Aside0 (Below w.heap.size w w'))
  case atStart => exact ⟨(1), (0), (by first | rfl | (simp; done) | (simp [*]; done)), (by first | rfl | (simp; done) | (simp [*]; done)), H', ⟨Nat.le_refl _⟩, ⟨by (with_reducible repeat (first | refine blk_drewN ?_ _ | refine blk_drew ?_ | refine blk_alloc ?_ _)); exact BK108.out⟩, ⟨by repeat (first | (with_reducible first | exact HB.out | apply below_alloc | apply pw_below_drewN | apply below_drew1 | refine below_set ?_ GE108.out) | exact HB.out)⟩⟩
  case round =>
    clear H'
    try clear c2
    try clear p2
    try clear hcz3_0
    try clear hcz3_1
    try clear hfz3_0
    try clear hfz3_1
    obtain ⟨x3_1, x6_1, rfl, rfl, HA, HK1, BK108, HB⟩ := hrel
    cases gk with
    | zero => exact absurd HA.out (by simp [unit_unit_factor.l0])
    | succ k1 =>
      have H := HA.out
      clear HA
      simp only [unit_unit_factor.l0] at H
      by_cases c4 : x6_1 < a0_1
      · rw [if_pos c4] at H
        have c4b0 : decide (x6_1 < a0_1) = true := decide_eq_true c4
        clear c4
        have H' := Aside0.mk H
        clear H
        go_wp2
        go_roundg k1
        case measure => have := HK1.out; omega
        case rel => exact ⟨(wrap64 (x3_1 * 10)), (wrap64 (x6_1 + 1)), (by first | rfl | (simp; done) | (simp [*]; done)), (by first | rfl | (simp; done) | (simp [*]; done)), H', ⟨by have := HK1.out; omega⟩, ⟨by (with_reducible repeat (first | refine blk_drewN ?_ _ | refine blk_drew ?_ | refine blk_alloc ?_ _)); exact BK108.out⟩, ⟨by repeat (first | (with_reducible first | exact HB.out | apply below_alloc | apply pw_below_drewN | apply below_drew1 | refine below_set ?_ GE108.out) | exact HB.out)⟩⟩
      · rw [if_neg c4] at H
        have c4b0 : decide (x6_1 < a0_1) = false := decide_eq_false c4
        clear c4
        obtain rfl := Option.some.inj H
        go_wp2
        go_ret
        exact ⟨by first | rfl | (simp [errW_none, errW_some] <;> rfl) | (simp [*, errW_none, errW_some] <;> rfl), by repeat (first | (with_reducible first | exact HB.out | apply below_alloc | apply pw_below_drewN | apply below_drew1 | refine below_set ?_ GE108.out) | exact HB.out)⟩
def stringslite_HasPrefix.f (a0 : ByteArray) (a1 : ByteArray) : Option (Bool) := if (a0.size : Int) ≥ (a1.size : Int) then (if 0 ≤ (a1.size : Int) then (if (a1.size : Int) ≤ (a0.size : Int) then (some ((a0.extract 0 ((a1.size : Int) : Int).toNat).toList == a1.toList)) else (none)) else (none)) else (some false)
set_option maxHeartbeats 8000000 in
set_option maxRecDepth 100000 in
theorem stringslite_HasPrefix.calls (a0 : ByteArray) (a1 : ByteArray) (r : Bool) (w : World) (h : stringslite_HasPrefix.f a0 a1 = some r) :
    Calls Tryz.prog 60 #[.string a0, .string a1] w fun e w' => e = .returned (.bool r) ∧ Drawn0 w w' := by
  have H : (if (a0.size : Int) ≥ (a1.size : Int) then (if 0 ≤ (a1.size : Int) then (if (a1.size : Int) ≤ (a0.size : Int) then (some ((a0.extract 0 ((a1.size : Int) : Int).toNat).toList == a1.toList)) else (none)) else (none)) else (some false)) = some r := h
  clear h
  by_cases c3 : (a0.size : Int) ≥ (a1.size : Int)
  · rw [if_pos c3] at H
    have c3b0 : decide ((a1.size : Int) ≤ (a0.size : Int)) = true := decide_eq_true c3
    have c3b1 : decide (a1.size ≤ a0.size) = true := decide_eq_true (Int.ofNat_le.mp c3)
    clear c3
    by_cases c4 : 0 ≤ (a1.size : Int)
    · rw [if_pos c4] at H
      have c4b0 := eq_true c4
      have c4b1 : decide (0 ≤ (a1.size : Int)) = true := decide_eq_true c4
      clear c4
      by_cases c5 : (a1.size : Int) ≤ (a0.size : Int)
      · rw [if_pos c5] at H
        have c5b0 := eq_true c5
        have c5b1 : decide ((a1.size : Int) ≤ (a0.size : Int)) = true := decide_eq_true c5
        clear c5
        obtain rfl := Option.some.inj H
        go_enter Tryz.func60, Tryz.ntmps60
        go_wp2
        go_ret
        exact ⟨by first | rfl | (simp; done) | (simp [*]; done), by repeat (first | exact Drawn0.refl _ | apply Drawn0.step)⟩
      · rw [if_neg c5] at H
        exact absurd H (by simp)
    · rw [if_neg c4] at H
      exact absurd H (by simp)
  · rw [if_neg c3] at H
    have c3b0 : decide ((a1.size : Int) ≤ (a0.size : Int)) = false := decide_eq_false c3
    have c3b1 : decide (a1.size ≤ a0.size) = false := decide_eq_false (fun h => c3 (Int.ofNat_le.mpr h))
    clear c3
    obtain rfl := Option.some.inj H
    go_enter Tryz.func60, Tryz.ntmps60
    go_wp2
    go_ret
    exact ⟨by first | rfl | (simp; done) | (simp [*]; done), by repeat (first | exact Drawn0.refl _ | apply Drawn0.step)⟩
def stringslite_CutPrefix.f (a0 : ByteArray) (a1 : ByteArray) : Option (ByteArray × Bool) := (stringslite_HasPrefix.f a0 a1).bind fun t109 => (if t109 = true then (if 0 ≤ (a1.size : Int) then (if (a1.size : Int) ≤ (a0.size : Int) then (some (a0.extract ((a1.size : Int) : Int).toNat a0.size, true)) else (none)) else (none)) else (some (a0, false)))
set_option maxHeartbeats 8000000 in
set_option maxRecDepth 100000 in
theorem stringslite_CutPrefix.calls (a0 : ByteArray) (a1 : ByteArray) (r1 : ByteArray) (r2 : Bool) (w : World) (h : stringslite_CutPrefix.f a0 a1 = some (r1, r2)) :
    Calls Tryz.prog 67 #[.string a0, .string a1] w fun e w' => e = .returned (.tuple #[.string r1, .bool r2]) ∧ Drawn0 w w' := by
  have H : ((stringslite_HasPrefix.f a0 a1).bind fun t109 => (if t109 = true then (if 0 ≤ (a1.size : Int) then (if (a1.size : Int) ≤ (a0.size : Int) then (some (a0.extract ((a1.size : Int) : Int).toNat a0.size, true)) else (none)) else (none)) else (some (a0, false)))) = some (r1, r2) := h
  clear h
  replace H := Option.bind_eq_some_iff.mp H
  obtain ⟨t109, A30, H⟩ := H
  replace H : (if t109 = true then (if 0 ≤ (a1.size : Int) then (if (a1.size : Int) ≤ (a0.size : Int) then (some (a0.extract ((a1.size : Int) : Int).toNat a0.size, true)) else (none)) else (none)) else (some (a0, false))) = some (r1, r2) := H
  have A3 := Aside0.mk A30
  clear A30
  by_cases c4 : t109 = true
  · subst c4
    have H1 : (if 0 ≤ (a1.size : Int) then (if (a1.size : Int) ≤ (a0.size : Int) then (some (a0.extract ((a1.size : Int) : Int).toNat a0.size, true)) else (none)) else (none)) = some (r1, r2) := by rw [if_pos rfl] at H; exact H
    clear H
    have H := H1
    clear H1
    by_cases c5 : 0 ≤ (a1.size : Int)
    · rw [if_pos c5] at H
      have c5b0 := eq_true c5
      have c5b1 : decide (0 ≤ (a1.size : Int)) = true := decide_eq_true c5
      clear c5
      by_cases c6 : (a1.size : Int) ≤ (a0.size : Int)
      · rw [if_pos c6] at H
        have c6b0 := eq_true c6
        have c6b1 : decide ((a1.size : Int) ≤ (a0.size : Int)) = true := decide_eq_true c6
        clear c6
        simp only [Option.some.injEq, Prod.mk.injEq] at H
        obtain ⟨rfl, rfl⟩ := H
        go_enter Tryz.func67, Tryz.ntmps67
        go_wp2_with (first | ((with_reducible refine gate_callee (f := 60) rfl ?_); refine goesL_ (some 8) rfl rfl Tryz.func60 (by kernel_rfl) rfl #[.string a0, .string a1] rfl (by (try simp only [List.map_toArray, List.map_cons, List.map_nil]); first | done | rfl | (simp only [List.length_drop, List.length_take]; rfl)) ?_; (with_reducible refine (stringslite_HasPrefix.calls a0 a1 true _ A3.out).mono ?_); rintro e w' ⟨rfl, ⟨nd, rfl⟩⟩; refine ⟨_, rfl, ?_⟩))
        go_ret2
        exact ⟨by first | rfl | (simp; done) | (simp [*]; done), by repeat (first | exact Drawn0.refl _ | apply Drawn0.step)⟩
      · rw [if_neg c6] at H
        exact absurd H (by simp)
    · rw [if_neg c5] at H
      exact absurd H (by simp)
  · replace c4 := Bool.eq_false_iff.mpr c4
    subst c4
    have H1 : (some (a0, false)) = some (r1, r2) := by rw [if_neg (show ¬ (false = true) by decide)] at H; exact H
    clear H
    have H := H1
    clear H1
    simp only [Option.some.injEq, Prod.mk.injEq] at H
    obtain ⟨rfl, rfl⟩ := H
    go_enter Tryz.func67, Tryz.ntmps67
    go_wp2_with (first | ((with_reducible refine gate_callee (f := 60) rfl ?_); refine goesL_ (some 8) rfl rfl Tryz.func60 (by kernel_rfl) rfl #[.string a0, .string a1] rfl (by (try simp only [List.map_toArray, List.map_cons, List.map_nil]); first | done | rfl | (simp only [List.length_drop, List.length_take]; rfl)) ?_; (with_reducible refine (stringslite_HasPrefix.calls a0 a1 false _ A3.out).mono ?_); rintro e w' ⟨rfl, ⟨nd, rfl⟩⟩; refine ⟨_, rfl, ?_⟩))
    go_ret2
    exact ⟨by first | rfl | (simp; done) | (simp [*]; done), by repeat (first | exact Drawn0.refl _ | apply Drawn0.step)⟩
def strings_CutPrefix.f (a0 : ByteArray) (a1 : ByteArray) : Option (ByteArray × Bool) := (stringslite_CutPrefix.f a0 a1).bind fun bt110 => (some (bt110.1, bt110.2))
set_option maxHeartbeats 8000000 in
set_option maxRecDepth 100000 in
theorem strings_CutPrefix.calls (a0 : ByteArray) (a1 : ByteArray) (r1 : ByteArray) (r2 : Bool) (w : World) (h : strings_CutPrefix.f a0 a1 = some (r1, r2)) :
    Calls Tryz.prog 47 #[.string a0, .string a1] w fun e w' => e = .returned (.tuple #[.string r1, .bool r2]) ∧ Drawn0 w w' := by
  have H : ((stringslite_CutPrefix.f a0 a1).bind fun bt110 => (some (bt110.1, bt110.2))) = some (r1, r2) := h
  clear h
  replace H := Option.bind_eq_some_iff.mp H
  obtain ⟨⟨t110, t111⟩, A30, H⟩ := H
  replace H : (some (t110, t111)) = some (r1, r2) := H
  have A3 := Aside0.mk A30
  clear A30
  simp only [Option.some.injEq, Prod.mk.injEq] at H
  obtain ⟨rfl, rfl⟩ := H
  go_enter Tryz.func47, Tryz.ntmps47
  go_wp2_with (first | ((with_reducible refine gate_callee (f := 67) rfl ?_); refine goesL_ (some 8) rfl rfl Tryz.func67 (by kernel_rfl) rfl #[.string a0, .string a1] rfl (by (try simp only [List.map_toArray, List.map_cons, List.map_nil]); first | done | rfl | (simp only [List.length_drop, List.length_take]; rfl)) ?_; (with_reducible refine (stringslite_CutPrefix.calls a0 a1 t110 t111 _ A3.out).mono ?_); rintro e w' ⟨rfl, ⟨nd, rfl⟩⟩; refine ⟨_, rfl, ?_⟩))
  go_ret2
  exact ⟨by first | rfl | (simp; done) | (simp [*]; done), by repeat (first | exact Drawn0.refl _ | apply Drawn0.step)⟩
end Go.Proofs.YtmjglehdckgcnaaGreatDoor.Pr
namespace Go.Proofs.YtmjglehdckgcnaaGreatDoor.X
open Go Go.Maps Go.WideMaps
section
variable {α : Type} (enc : α → DataW Unit)
/-- The datum of some entries, stored one after the other. -/
def putAll : DataW Unit → List (List UInt8 × α) → DataW Unit
  | D, [] => D
  | D, x :: r => putAll (D.put (.string x.1) (enc x.2)) r
/-- What stands at a key in the end. -/
def lastAt : Option α → List (List UInt8 × α) → List UInt8 → Option α
  | o, [], _ => o
  | o, x :: r, s => lastAt (if x.1 = s then some x.2 else o) r s
theorem put_at {D : DataW Unit} (hD : IsMap D) (k s : List UInt8) (x : α) (o : Option α) (z : DataW Unit) (h : D.atKey (.string s) z = match o with | none => z | some y => enc y) :
    (D.put (.string k) (enc x)).atKey (.string s) z = match (if k = s then some x else o) with | none => z | some y => enc y := by
  by_cases c : k = s
  · subst c
    rw [if_pos rfl]
    exact atKey_put_same hD (show WideAt.IsKeyLit (.string k) from trivial) _ _
  · rw [if_neg c, atKey_put_other (fun e => c (by injection e with e; exact e.symm))]
    exact h
theorem put_has {D : DataW Unit} (hD : IsMap D) (k s : List UInt8) (x : α) (o : Option α) (h : Maps.has D (.string s) = o.isSome) :
    Maps.has (D.put (.string k) (enc x)) (.string s) = (if k = s then some x else o).isSome := by
  by_cases c : k = s
  · subst c
    rw [if_pos rfl]
    exact has_put_same hD (show WideAt.IsKeyLit (.string k) from trivial) _
  · rw [if_neg c, has_put_other (fun e => c (by injection e with e; exact e.symm))]
    exact h
theorem putAll_at : ∀ (l : List (List UInt8 × α)) (D : DataW Unit) (o : Option α) (s : List UInt8) (z : DataW Unit), IsMap D → (D.atKey (.string s) z = match o with | none => z | some y => enc y) →
    (putAll enc D l).atKey (.string s) z = match lastAt o l s with | none => z | some y => enc y
  | [], _, _, _, _, _, h => h
  | x :: r, D, o, s, z, hD, h => putAll_at r _ _ s z (hD.put _ _) (put_at enc hD x.1 s x.2 o z h)
theorem putAll_has : ∀ (l : List (List UInt8 × α)) (D : DataW Unit) (o : Option α) (s : List UInt8), IsMap D → Maps.has D (.string s) = o.isSome → Maps.has (putAll enc D l) (.string s) = (lastAt o l s).isSome
  | [], _, _, _, _, h => h
  | x :: r, D, o, s, hD, h => putAll_has r _ _ s (hD.put _ _) (put_has enc hD x.1 s x.2 o h)
def litMap (l : List (List UInt8 × α)) : DataW Unit := putAll enc (.map []) l
theorem litMap_at (l : List (List UInt8 × α)) (s : List UInt8) (z : DataW Unit) : (litMap enc l).atKey (.string s) z = match lastAt none l s with | none => z | some y => enc y :=
  putAll_at enc l _ none s z isMap_empty rfl
theorem litMap_has (l : List (List UInt8 × α)) (s : List UInt8) : Maps.has (litMap enc l) (.string s) = (lastAt none l s).isSome :=
  putAll_has enc l _ none s isMap_empty rfl
end
/-- How a struct of two ints reads. -/
def twoL : List Value → Option (DataW Unit × List MemPlace)
  | [.int .i64 a, .int .i64 b] => some (.agg [.lit (.int .i64 a), .lit (.int .i64 b)], [])
  | _ => none
def two2 : Value → Option (DataW Unit × List MemPlace)
  | .agg c => twoL c.toList
  | _ => none
def enc2 (p : Int × Int) : DataW Unit := .agg [.lit (.int .i64 p.1), .lit (.int .i64 p.2)]
theorem two2_mk (a b : Int) : two2 (.agg #[.int .i64 a, .int .i64 b]) = some (enc2 (a, b), []) := rfl
theorem two2_inv {v : Value} {y : DataW Unit × List MemPlace} (h : two2 v = some y) : ∃ p : Int × Int, v = .agg #[.int .i64 p.1, .int .i64 p.2] := by
  unfold two2 at h
  split at h
  · rename_i c
    unfold twoL at h
    split at h
    · rename_i a b e
      exact ⟨(a, b), congrArg Value.agg (by rw [← Array.toArray_toList (xs := c), e])⟩
    · cases h
  · cases h
theorem two2_enc {v : Value} {p : Int × Int} {ps : List MemPlace} (h : two2 v = some (enc2 p, ps)) : v = .agg #[.int .i64 p.1, .int .i64 p.2] := by
  obtain ⟨q, rfl⟩ := two2_inv h
  have e := Option.some.inj ((two2_mk q.1 q.2).symm.trans h)
  have e1 : enc2 (q.1, q.2) = enc2 p := congrArg Prod.fst e
  simp only [enc2, DataW.agg.injEq, List.cons.injEq, DataW.lit.injEq, Lit.int.injEq, true_and, and_true] at e1
  obtain ⟨h1, h2⟩ := e1
  rw [h1, h2]
section
variable {P : Program} (w : World) {ops : Array Oper} {rest : List Oper} {o : Oper} {a : Act} {Q : Exit → Act → World → Prop}
/-- 'm[s]' in such a map: what it comes to. -/
theorem look_two {w : World} {t k e : TypeId} (ht : P.underlying t = some (.map k e)) (hk : P.underlying k = some .string) (hz : (zeroValue e).run P w = .ok (.agg #[.int .i64 0, .int .i64 0]) w) {b n : Nat} {l : List (List UInt8 × (Int × Int))}
    (hown : w.ownsMap P k two2 b n (litMap enc2 l)) (s : ByteArray) (hs : s.size ≤ maxLen) :
    (Instr.lookup t (.map (some b)) (.string s) false).run P w = .ok (.agg #[.int .i64 ((lastAt none l s.data.toList).getD (0, 0)).1, .int .i64 ((lastAt none l s.data.toList).getD (0, 0)).2]) w := by
  obtain ⟨v, ps, hrun, hv⟩ := hown.lookup (string_keyed hk) ht hz (two2_mk 0 0) (keyOf_string_mk hk hs)
  have hv' : v = .agg #[.int .i64 ((lastAt none l s.data.toList).getD (0, 0)).1, .int .i64 ((lastAt none l s.data.toList).getD (0, 0)).2] := by
    have e1 := litMap_at enc2 l s.data.toList (enc2 (0, 0))
    cases hl : lastAt none l s.data.toList with
    | none =>
      rw [hl] at e1
      have e1 : (litMap enc2 l).atKey (.string s.data.toList) (enc2 (0, 0)) = enc2 (0, 0) := e1
      exact two2_enc (hv.trans (congrArg (fun d => some (d, ps)) e1))
    | some p =>
      rw [hl] at e1
      have e1 : (litMap enc2 l).atKey (.string s.data.toList) (enc2 (0, 0)) = enc2 p := e1
      exact two2_enc (hv.trans (congrArg (fun d => some (d, ps)) e1))
  rw [hrun, hv']
/-- 'v, ok := m[s]' in such a map: what it comes to. -/
theorem look_two_ok {w : World} {t k e : TypeId} (ht : P.underlying t = some (.map k e)) (hk : P.underlying k = some .string) (hz : (zeroValue e).run P w = .ok (.agg #[.int .i64 0, .int .i64 0]) w) {b n : Nat} {l : List (List UInt8 × (Int × Int))}
    (hown : w.ownsMap P k two2 b n (litMap enc2 l)) (s : ByteArray) (hs : s.size ≤ maxLen) :
    (Instr.lookup t (.map (some b)) (.string s) true).run P w = .ok (.tuple #[.agg #[.int .i64 ((lastAt none l s.data.toList).getD (0, 0)).1, .int .i64 ((lastAt none l s.data.toList).getD (0, 0)).2], .bool (lastAt none l s.data.toList).isSome]) w := by
  obtain ⟨v, ps, hrun, hv⟩ := hown.look_ok (string_keyed hk) ht hz (two2_mk 0 0) (keyOf_string_mk hk hs)
  have hv' : v = .agg #[.int .i64 ((lastAt none l s.data.toList).getD (0, 0)).1, .int .i64 ((lastAt none l s.data.toList).getD (0, 0)).2] := by
    have e1 := litMap_at enc2 l s.data.toList (enc2 (0, 0))
    cases hl : lastAt none l s.data.toList with
    | none =>
      rw [hl] at e1
      have e1 : (litMap enc2 l).atKey (.string s.data.toList) (enc2 (0, 0)) = enc2 (0, 0) := e1
      exact two2_enc (hv.trans (congrArg (fun d => some (d, ps)) e1))
    | some p =>
      rw [hl] at e1
      have e1 : (litMap enc2 l).atKey (.string s.data.toList) (enc2 (0, 0)) = enc2 p := e1
      exact two2_enc (hv.trans (congrArg (fun d => some (d, ps)) e1))
  rw [hrun, hv', litMap_has]
/-- The step of a range over such a map: nothing is left, or an entry that was left. -/
theorem wpList_next_two (hg : o.guard = none) (it : Operand) (hop : o.op = Op.next it false) (k : TypeId) (hk : P.underlying k = some .string) (b r n : Nat) (l : List (List UInt8 × (Int × Int))) (left : Lit → Bool) (cnt : Nat)
    (hit : a.eval it = .pointer (some ⟨r, 0, none⟩)) (h : w.ranges P k two2 b r n (litMap enc2 l) left cnt)
    (hDone : cnt = 0 → (∀ kl, left kl = false) → wpList P ops Q rest (a.put o.dst (.tuple #[.bool false])) w)
    (hMore : ∀ (x : ByteArray) (p : Int × Int) (w' : World) (cnt' : Nat), x.size ≤ maxLen → left (.string x.data.toList) = true → lastAt none l x.data.toList = some p →
      w'.ranges P k two2 b r n (litMap enc2 l) (fun z => left z && !z.sameKey (.string x.data.toList)) cnt' → cnt' < cnt →
      w.grownBy w' (some r) → w'.heap.size = w.heap.size → (Instr.entry (.pointer (some ⟨r, 0, none⟩))).run P w' = .ok (.tuple #[.string x, .agg #[.int .i64 p.1, .int .i64 p.2]]) w' →
      wpList P ops Q rest (a.put o.dst (.tuple #[.bool true, .string x, .agg #[.int .i64 p.1, .int .i64 p.2]])) w') :
    wpList P ops Q (o :: rest) a w :=
  wpList_next_ranges w hg it hop k (string_keyed hk) two2 (fun x : ByteArray => .string x) (fun p : Int × Int => .agg #[.int .i64 p.1, .int .i64 p.2])
    (fun key kl h => by
      obtain ⟨x, rfl, _, _⟩ := string_of_keyOf hk h
      exact ⟨x, rfl⟩) (fun v y h => two2_inv h) b r n _ left cnt hit h hDone
    (fun x p kl y w' cnt' hkey hl hv hat hr hlt hg2 hsz hen => by
      obtain ⟨x', e, rfl, hw⟩ := string_of_keyOf hk hkey
      injection e with e
      subst e
      refine hMore x p w' cnt' hw hl ?_ hr hlt hg2 hsz hen
      have ey : y = (enc2 p, []) := (Option.some.inj ((two2_mk p.1 p.2).symm.trans hv)).symm
      subst ey
      cases hla : lastAt none l x.data.toList with
      | none =>
        have h1 := (litMap_at enc2 l x.data.toList (enc2 (p.1 + 1, p.2))).symm.trans (hat _)
        rw [hla] at h1
        have h1 : enc2 (p.1 + 1, p.2) = enc2 p := h1
        simp only [enc2, DataW.agg.injEq, List.cons.injEq, DataW.lit.injEq, Lit.int.injEq, true_and, and_true] at h1
        omega
      | some q =>
        have h1 := (litMap_at enc2 l x.data.toList (enc2 p)).symm.trans (hat _)
        rw [hla] at h1
        have h1 : enc2 q = enc2 p := h1
        simp only [enc2, DataW.agg.injEq, List.cons.injEq, DataW.lit.injEq, Lit.int.injEq, true_and, and_true] at h1
        rw [show q = p from Prod.ext h1.1 h1.2])
/-- 'm[s] = v' into such a map. -/
theorem putAll_snoc {α : Type} (enc : α → DataW Unit) : ∀ (l : List (List UInt8 × α)) (D : DataW Unit) (x : List UInt8 × α), putAll enc D (l ++ [x]) = (putAll enc D l).put (.string x.1) (enc x.2)
  | [], _, _ => rfl
  | y :: r, D, x => putAll_snoc enc r _ x
/-- An entry of a map's literal. -/
theorem wpList_insert_two (hg : o.guard = none) (m x v : Operand) (t : TypeId) (hop : o.op = Op.insert t m x v) (k e : TypeId) (ht : P.underlying t = some (.map k e)) (hk : P.underlying k = some .string) (b n : Nat) (l : List (List UInt8 × (Int × Int)))
    (hm : a.eval m = .map (some b)) (hown : w.ownsMap P k two2 b n (litMap enc2 l)) (hn : n < maxLen) (s : ByteArray) (hs : s.size ≤ maxLen) (p1 p2 : Int) (hx : a.eval x = .string s) (hv : a.eval v = .agg #[.int .i64 p1, .int .i64 p2])
    (hK : ∀ w', w'.ownsMap P k two2 b (n + 1) (litMap enc2 (l ++ [(s.data.toList, (p1, p2))])) → w.grownBy w' (some b) → wpList P ops Q rest (a.put o.dst undef) w') :
    wpList P ops Q (o :: rest) a w := by
  refine wpList_plain hg fun K' hK' => ?_
  obtain ⟨w', hrun, r1, r2⟩ := hown.update (string_keyed hk) ht hn (keyOf_string_mk hk hs) (two2_mk p1 p2)
  unfold Oper.wp
  simp [execOp, hop, hm, hx, hv, hrun, Result.andThen]
  exact hK' _ _ (hK w' (by rw [litMap, putAll_snoc]; exact r1) r2)
end
end Go.Proofs.YtmjglehdckgcnaaGreatDoor.X
namespace Go.Proofs.YtmjglehdckgcnaaGreatDoor.X
open Go Go.Maps Go.WideMaps
/-- All units: the kind and the zeros of each. -/
def tbl : List (List UInt8 × (Int × Int)) :=
  [([109, 108], (1, 0)), ([99, 108], (1, 1)), ([108], (1, 3)), ([104, 108], (1, 5)), ([37], (2, 2)), ([109, 108, 112, 97], (3, 4)), ([108, 112, 97], (3, 7)), ([103], (4, 5)), ([107, 103], (4, 8)), ([67], (5, 1)),
   ([109, 109], (6, 1)), ([99, 109], (6, 2)), ([109], (6, 4)), ([99, 111, 105, 110], (7, 0)), ([99, 114, 111, 119, 110], (7, 2))]
def unitAt (x : List UInt8) : Option (Int × Int) := lastAt none tbl x
def zOf (x : List UInt8) : Int := ((unitAt x).getD (0, 0)).2
theorem unitAt_mem {x : List UInt8} {p : Int × Int} (h : unitAt x = some p) : (x, p) ∈ tbl := by
  have g : ∀ (l : List (List UInt8 × (Int × Int))) (o : Option (Int × Int)), lastAt o l x = some p → o = some p ∨ (x, p) ∈ l := by
    intro l
    induction l with
    | nil => intro o h; exact Or.inl h
    | cons y r ih =>
      intro o h
      rcases ih _ h with h | h
      · by_cases c : y.1 = x
        · rw [if_pos c] at h
          exact Or.inr (by rw [show (x, p) = y from Prod.ext c.symm (Option.some.inj h).symm]; exact List.mem_cons_self)
        · rw [if_neg c] at h
          exact Or.inl h
      · exact Or.inr (List.mem_cons_of_mem _ h)
  rcases g tbl none h with h | h
  · cases h
  · exact h
theorem unitAt_ne {x : List UInt8} {p : Int × Int} (h : unitAt x = some p) : x ≠ [] := by
  intro e
  subst e
  have h0 : unitAt [] = none := by decide
  rw [h0] at h
  cases h
structure Inv (K size : Int) (best least : List UInt8) (left : Lit → Bool) : Prop where
  l0 : least ≠ [] → ∃ z, unitAt least = some (K, z)
  b0 : best ≠ [] → ∃ z, unitAt best = some (K, z) ∧ ((10 ^ z.toNat : Nat) : Int) ≤ size
  l1 : ∀ x z, unitAt x = some (K, z) → left (.string x) = false → least ≠ [] ∧ zOf least ≤ z
  b1 : ∀ x z, unitAt x = some (K, z) → left (.string x) = false → ((10 ^ z.toNat : Nat) : Int) ≤ size → best ≠ [] ∧ z ≤ zOf best
theorem has_tbl {x : List UInt8} {p : Int × Int} (h : unitAt x = some p) (hl : Maps.has (litMap enc2 tbl) (.string x) = false) : False := by
  have e := litMap_has enc2 tbl x
  rw [show lastAt none tbl x = some p from h, hl] at e
  cases e
theorem inv_start (K size : Int) : Inv K size [] [] (Maps.has (litMap enc2 tbl)) :=
  ⟨fun h => absurd rfl h, fun h => absurd rfl h, fun x z h hl => (has_tbl h hl).elim, fun x z h hl => (has_tbl h hl).elim⟩
theorem left_cases {left : Lit → Bool} {x y : List UInt8} (h : (left (.string y) && !Lit.sameKey (.string y) (.string x)) = false) : left (.string y) = false ∨ y = x := by
  cases c : left (.string y) with
  | false => exact Or.inl rfl
  | true =>
    rw [c, Bool.true_and, Bool.not_eq_false'] at h
    refine Or.inr ?_
    simpa [Lit.sameKey] using h
/-- An entry of another kind. -/
theorem inv_other {K size : Int} {best least : List UInt8} {left : Lit → Bool} (h : Inv K size best least left) {x : List UInt8} {p : Int × Int} (hx : unitAt x = some p) (hp : p.1 ≠ K) :
    Inv K size best least (fun z => left z && !z.sameKey (.string x)) :=
  ⟨h.l0, h.b0, fun y z hy hl => by
    rcases left_cases hl with hl | rfl
    · exact h.l1 y z hy hl
    · exact absurd (congrArg Prod.fst (Option.some.inj (hx.symm.trans hy))) hp, fun y z hy hl => by
    rcases left_cases hl with hl | rfl
    · exact h.b1 y z hy hl
    · exact absurd (congrArg Prod.fst (Option.some.inj (hx.symm.trans hy))) hp⟩
/-- An entry of the kind. -/
theorem inv_step {K size : Int} {best least : List UInt8} {left : Lit → Bool} (h : Inv K size best least left) {x : List UInt8} {p : Int × Int} (hx : unitAt x = some p) (hp : p.1 = K)
    {best' least' : List UInt8} (hl : (least = [] ∨ p.2 < zOf least) ∧ least' = x ∨ (least ≠ [] ∧ zOf least ≤ p.2) ∧ least' = least)
    (hb : (((10 ^ p.2.toNat : Nat) : Int) ≤ size ∧ (best = [] ∨ zOf best < p.2)) ∧ best' = x ∨ (size < ((10 ^ p.2.toNat : Nat) : Int) ∨ (best ≠ [] ∧ p.2 ≤ zOf best)) ∧ best' = best) :
    Inv K size best' least' (fun z => left z && !z.sameKey (.string x)) := by
  obtain ⟨k, z⟩ := p
  obtain rfl : k = K := hp
  have hz : zOf x = z := by unfold zOf; rw [hx]; rfl
  have hne := unitAt_ne hx
  refine ⟨?_, ?_, ?_, ?_⟩
  · rcases hl with ⟨_, rfl⟩ | ⟨_, rfl⟩
    · exact fun _ => ⟨z, hx⟩
    · exact h.l0
  · rcases hb with ⟨⟨hs, _⟩, rfl⟩ | ⟨_, rfl⟩
    · exact fun _ => ⟨z, hx, hs⟩
    · exact h.b0
  · intro y v hy hf
    rcases left_cases hf with hf | rfl
    · have := h.l1 y v hy hf
      rcases hl with ⟨c, rfl⟩ | ⟨_, rfl⟩
      · rcases c with c | c
        · exact absurd c this.1
        · have c : z < zOf least := c
          exact ⟨hne, by omega⟩
      · exact this
    · obtain rfl : z = v := congrArg Prod.snd (Option.some.inj (hx.symm.trans hy))
      rcases hl with ⟨c, rfl⟩ | ⟨c, rfl⟩
      · exact ⟨hne, by omega⟩
      · exact c
  · intro y v hy hf hs
    rcases left_cases hf with hf | rfl
    · have := h.b1 y v hy hf hs
      rcases hb with ⟨⟨_, c⟩, rfl⟩ | ⟨_, rfl⟩
      · rcases c with c | c
        · exact absurd c this.1
        · have c : zOf best < z := c
          exact ⟨hne, by omega⟩
      · exact this
    · obtain rfl : z = v := congrArg Prod.snd (Option.some.inj (hx.symm.trans hy))
      rcases hb with ⟨_, rfl⟩ | ⟨c, rfl⟩
      · exact ⟨hne, by omega⟩
      · rcases c with c | c
        · have c : size < ((10 ^ z.toNat : Nat) : Int) := c
          omega
        · exact c
/-- The best unit of a size: the last one of its kind that is not above it, or the first one. -/
def bestIn (size : Int) : List UInt8 → List (List UInt8 × (Int × Int)) → List UInt8
  | b, [] => b
  | b, e :: r => bestIn size (if ((10 ^ e.2.2.toNat : Nat) : Int) ≤ size then e.1 else b) r
def kindL (K : Int) : List (List UInt8 × (Int × Int)) := tbl.filter fun e => decide (e.2.1 = K)
def bestL (K size : Int) : List UInt8 := bestIn size (((kindL K).head?.map Prod.fst).getD []) (kindL K)
theorem bestIn_end {size : Int} {K : Int} {best : List UInt8} : ∀ (l : List (List UInt8 × (Int × Int))) (b : List UInt8), (l.Pairwise fun x y => x.2.2 < y.2.2) →
    (∀ e, e ∈ l → ((10 ^ e.2.2.toNat : Nat) : Int) ≤ size → e.2.2 ≤ zOf best) →
    ((∃ e, e ∈ l ∧ e.1 = best ∧ e.2.2 = zOf best ∧ ((10 ^ e.2.2.toNat : Nat) : Int) ≤ size) ∨ (b = best ∧ ∀ e, e ∈ l → ¬ ((10 ^ e.2.2.toNat : Nat) : Int) ≤ size)) → bestIn size b l = best
  | [], b, _, _, h => by
    rcases h with ⟨e, he, _⟩ | ⟨h, _⟩
    · cases he
    · exact h
  | y :: r, b, hs, hm, h => by
    rw [List.pairwise_cons] at hs
    unfold bestIn
    refine bestIn_end (K := K) r _ hs.2 (fun e he => hm e (List.mem_cons_of_mem _ he)) ?_
    rcases h with ⟨e, he, h1, h2, h3⟩ | ⟨h1, h2⟩
    · rcases List.mem_cons.1 he with rfl | he
      · refine Or.inr ⟨by rw [if_pos h3]; exact h1, fun e' he' c => ?_⟩
        have h5 := hs.1 e' he'
        have h6 := hm e' (List.mem_cons_of_mem _ he') c
        omega
      · exact Or.inl ⟨e, he, h1, h2, h3⟩
    · exact Or.inr ⟨by rw [if_neg (h2 y List.mem_cons_self)]; exact h1, fun e he => h2 e (List.mem_cons_of_mem _ he)⟩
theorem bestIn_none {size : Int} : ∀ (l : List (List UInt8 × (Int × Int))) (b : List UInt8), (∀ e, e ∈ l → ¬ ((10 ^ e.2.2.toNat : Nat) : Int) ≤ size) → bestIn size b l = b
  | [], _, _ => rfl
  | y :: r, b, h => by
    unfold bestIn
    rw [if_neg (h y List.mem_cons_self)]
    exact bestIn_none r b fun e he => h e (List.mem_cons_of_mem _ he)
theorem kind_at : ∀ K ∈ ([1, 2, 3, 4, 5, 6, 7] : List Int), (∀ e, e ∈ kindL K → unitAt e.1 = some (K, e.2.2)) ∧ ((kindL K).Pairwise fun x y => x.2.2 < y.2.2) ∧ kindL K ≠ [] := by decide
theorem kind_mem {K : Int} {x : List UInt8} {z : Int} (h : unitAt x = some (K, z)) : (x, (K, z)) ∈ kindL K := by
  unfold kindL
  rw [List.mem_filter]
  exact ⟨unitAt_mem h, by simp⟩
/-- What the range leaves, whatever its order was. -/
theorem inv_end {K size : Int} {best least : List UInt8} {left : Lit → Bool} (hK : 1 ≤ K ∧ K ≤ 7) (h : Inv K size best least left) (hl : ∀ z, left z = false) : (if best = [] then least else best) = bestL K size := by
  have hmem : K ∈ ([1, 2, 3, 4, 5, 6, 7] : List Int) := by
    obtain ⟨h1, h2⟩ := hK
    simp only [List.mem_cons, List.not_mem_nil, or_false]
    omega
  obtain ⟨k1, k2, k3⟩ := kind_at K hmem
  have z1 : ∀ e, e ∈ kindL K → zOf e.1 = e.2.2 := fun e he => by unfold zOf; rw [k1 e he]; rfl
  unfold bestL
  by_cases c : best = []
  · rw [if_pos c]
    have hno : ∀ e, e ∈ kindL K → ¬ ((10 ^ e.2.2.toNat : Nat) : Int) ≤ size := fun e he hs => (h.b1 e.1 e.2.2 (k1 e he) (hl _) hs).1 c
    rw [bestIn_none _ _ hno]
    cases hk : kindL K with
    | nil => exact absurd hk k3
    | cons y r =>
      have hy : y ∈ kindL K := by rw [hk]; exact List.mem_cons_self
      obtain ⟨n1, n2⟩ := h.l1 y.1 y.2.2 (k1 y hy) (hl _)
      obtain ⟨z, hz⟩ := h.l0 n1
      have hm := kind_mem hz
      have e0 : zOf least = z := by unfold zOf; rw [hz]; rfl
      rw [hk] at hm k2
      rw [List.pairwise_cons] at k2
      rcases List.mem_cons.1 hm with e | e
      · show least = y.1
        rw [← e]
      · have h5 := k2.1 _ e
        have h5 : y.2.2 < z := h5
        omega
  · rw [if_neg c]
    obtain ⟨z, hz, hs⟩ := h.b0 c
    have e0 : zOf best = z := by unfold zOf; rw [hz]; rfl
    exact (bestIn_end (K := K) _ _ k2 (fun e he hs => (h.b1 e.1 e.2.2 (k1 e he) (hl _) hs).2) (Or.inl ⟨_, kind_mem hz, rfl, e0.symm, hs⟩)).symm
end Go.Proofs.YtmjglehdckgcnaaGreatDoor.X
namespace Go.Proofs.YtmjglehdckgcnaaGreatDoor.Pr
open Go Go.RowKit Go.Maps Go.WideMaps Go.Proofs.YtmjglehdckgcnaaGreatDoorW.PrintWords Go.Proofs.YtmjglehdckgcnaaGreatDoorW.PrintLast Go.Proofs.YtmjglehdckgcnaaGreatDoorW.PrintMore Go.Proofs.YtmjglehdckgcnaaGreatDoor.X
set_option maxHeartbeats 8000000 in
set_option maxRecDepth 100000 in
theorem unit_units.calls (w : World) : Calls Tryz.prog 13 #[] w fun e w' => ∃ b, e = .returned (.map (some b)) ∧ w'.ownsMap Tryz.prog 9 two2 b 15 (litMap enc2 tbl) ∧ Below w.heap.size w w' ∧ w.heap.size ≤ b := by
  have hmm := @run_makeMap Tryz.prog
  have h0 : (w.alloc (.map #[] 0)).ownsMap Tryz.prog 9 two2 w.heap.size 0 (litMap enc2 []) := World.ownsMap_made _ _ _ _
  have hb0 : Below w.heap.size w (w.alloc (.map #[] 0)) := (Below.refl _ _).alloc (Nat.le_refl _) _
  go_enter Tryz.func13, Tryz.ntmps13
  go_wp2_with (first
    | (refine wpList_insert_two _ rfl _ _ _ 40 rfl 9 38 Tryz.underlying40 Tryz.underlying9 w.heap.size _ _ rfl (by assumption) (by decide) _ (by decide) _ _ rfl rfl ?_; intro w1 ho1 hg1; have hb1 := Below.grown (by assumption) hg1 (Below.size (by assumption)) (fun j hj => by cases hj; exact Nat.le_refl _))
    | go_in)
  go_ret
  exact ⟨_, rfl, by assumption, by assumption, Nat.le_refl _⟩
end Go.Proofs.YtmjglehdckgcnaaGreatDoor.Pr
namespace Go.Proofs.YtmjglehdckgcnaaGreatDoor.Pr
open Go Go.RowKit Go.Maps Go.WideMaps Go.Proofs.YtmjglehdckgcnaaGreatDoorW.PrintWords Go.Proofs.YtmjglehdckgcnaaGreatDoorW.PrintLast Go.Proofs.YtmjglehdckgcnaaGreatDoorW.PrintMore Go.Proofs.YtmjglehdckgcnaaGreatDoor.X
theorem fact_at (k : Nat) (a z : Int) (h0 : 0 ≤ z) (h8 : z ≤ 8) (hk : 12 ≤ k) : unit_unit_factor.f k a z = some ((10 ^ z.toNat : Nat) : Int) := by
  have h12 : unit_unit_factor.f 12 a z = some ((10 ^ z.toNat : Nat) : Int) := by
    obtain ⟨n, rfl⟩ : ∃ n : Nat, z = n := ⟨z.toNat, by omega⟩
    have : n ≤ 8 := by omega
    have e : n = 0 ∨ n = 1 ∨ n = 2 ∨ n = 3 ∨ n = 4 ∨ n = 5 ∨ n = 6 ∨ n = 7 ∨ n = 8 := by omega
    rcases e with rfl | rfl | rfl | rfl | rfl | rfl | rfl | rfl | rfl <;> simp [unit_unit_factor.f, unit_unit_factor.l0, wrap64]
  obtain ⟨d, rfl⟩ : ∃ d, k = 12 + d := ⟨k - 12, by omega⟩
  induction d with
  | zero => exact h12
  | succ d ih => exact unit_unit_factor.mono a z _ _ (ih (by omega))
theorem unit_small {x : List UInt8} {p : Int × Int} (h : unitAt x = some p) : (1 ≤ p.1 ∧ p.1 ≤ 7) ∧ 0 ≤ p.2 ∧ p.2 ≤ 8 := by
  have e : ∀ y ∈ tbl, (1 ≤ y.2.1 ∧ y.2.1 ≤ 7) ∧ 0 ≤ y.2.2 ∧ y.2.2 ≤ 8 := by decide
  exact e _ (unitAt_mem h)
/-- Go's max of two. -/
theorem wpList_max2 {P : Program} {ops : Array Oper} {rest : List Oper} {o : Oper} {a : Act} {Q : Exit → Act → World → Prop} {w : World} (hg : o.guard = none) (x y : Operand) (ts : Array TypeId) (ho : o.op = .call { callee := .builtin .max, args := #[x, y], argTypes := ts }) (p q : Int) (hx : a.eval x = .int .i64 p) (hy : a.eval y = .int .i64 q)
    (hK : wpList P ops Q rest (a.put o.dst (.int .i64 (mx p q))) w) : wpList P ops Q (o :: rest) a w := by
  refine wpList_plain hg fun K' hK' => ?_
  unfold Oper.wp
  unfold mx at hK
  simp [execOp, ho, resolve, invoke, builtin, hx, hy, Builtin.max_, Builtin.max2, Result.andThen]
  exact hK' _ _ hK
theorem box_stays {w w' : World} {g : Nat} {o : Obj} (h : w.heap[g]? = some o) (hb : Below w.heap.size w w') : w'.heap[g]? = some o :=
  (hb.block g (Array.getElem?_eq_some_iff.1 h).1).trans h
theorem ranges_below {P : Program} {k : TypeId} {R : Value → Option (DataW Unit × List MemPlace)} {w w' : World} {b r n : Nat} {D : DataW Unit} {left : Lit → Bool} {cnt : Nat} (h : w.ranges P k R b r n D left cnt) (hb : Below w.heap.size w w') : w'.ranges P k R b r n D left cnt :=
  h.kept (row := none) ⟨hb.os, hb.tape, hb.output, hb.size, fun k hk _ => hb.block k hk⟩ (by simp) (by simp)
theorem ranges_drew {P : Program} {k : TypeId} {R : Value → Option (DataW Unit × List MemPlace)} {w : World} {b r n : Nat} {D : DataW Unit} {left : Lit → Bool} {cnt : Nat} (h : w.ranges P k R b r n D left cnt) : w.drew.ranges P k R b r n D left cnt :=
  ranges_below h (below_drew1 (Below.refl _ _))
theorem look_at {w : World} {b : Nat} (hm : w.ownsMap Tryz.prog 9 two2 b 15 (litMap enc2 tbl)) {s : ByteArray} {K z : Int} (h : unitAt s.data.toList = some (K, z)) : (Instr.lookup 40 (.map (some b)) (.string s) false).run Tryz.prog w = .ok (.agg #[.int .i64 K, .int .i64 z]) w := by
  have hl : ∀ y ∈ tbl, y.1.length ≤ 5 := by decide
  have hs : s.size ≤ maxLen := by
    have := hl _ (unitAt_mem h)
    have e : s.size = s.data.toList.length := by simp
    rw [e]
    exact Nat.le_trans this (by decide)
  have hz : (zeroValue 38).run Tryz.prog w = .ok (.agg #[.int .i64 0, .int .i64 0]) w := by go_simp
  have e := look_two (w := w) Tryz.underlying40 Tryz.underlying9 hz hm s hs
  rw [show lastAt none tbl s.data.toList = some (K, z) from h] at e
  exact e
theorem data_nil {s : ByteArray} (h : s.data.toList = []) : s = ⟨#[]⟩ := by
  cases s with
  | mk d => exact congrArg ByteArray.mk (Array.toList_inj.1 h)
theorem str_ne {s : ByteArray} (h : s ≠ ⟨#[]⟩) : s.toList.isEmpty = false := by
  rw [ByteArray.toList_eq]
  cases e : s.data.toList with
  | nil => exact absurd (data_nil e) h
  | cons => rfl
theorem ne_nil {s : ByteArray} (h : s ≠ ⟨#[]⟩) : s.data.toList ≠ [] := fun c => h (data_nil c)
def unit_Best.f (k : Nat) (a0_0 : Int) (a0_1 : Int) : Option (ByteArray × Int) :=
  (unit_Check.f k a0_0 a0_1).bind fun e => if e = 0 then (if (1 ≤ a0_0 ∧ a0_0 ≤ 7) ∧ 12 ≤ k then some (⟨(bestL a0_0 (mx a0_1 (wrap64 (-a0_1)))).toArray⟩, 0) else none) else some (⟨#[]⟩, 1)
theorem unit_Best.mono : ∀ a0 a1 k, LeO (unit_Best.f k a0 a1) (unit_Best.f (k + 1) a0 a1) := by
  intro a0 a1 k
  unfold unit_Best.f
  refine LeO.bind (unit_Check.mono _ _ _) fun e => ?_
  split
  · intro r h
    split at h
    · rename_i c
      rw [if_pos ⟨c.1, by omega⟩]
      exact h
    · cases h
  · exact LeO.refl _
set_option maxHeartbeats 8000000 in
set_option maxRecDepth 100000 in
theorem unit_Best.calls (k : Nat) (a0_0 : Int) (a0_1 : Int) (r1 : ByteArray) (r2 : Int) (w : World) (h : unit_Best.f k a0_0 a0_1 = some (r1, r2)) :
    Calls Tryz.prog 9 #[.agg #[.int .i64 a0_0, .int .i64 a0_1]] w fun e w' => e = .returned (.tuple #[.string r1, .int .i64 r2]) ∧ Below w.heap.size w w' := by
  unfold unit_Best.f at h
  cases hc : unit_Check.f k a0_0 a0_1 with
  | none => rw [hc] at h; cases h
  | some e0 =>
    rw [hc] at h
    have h : (if e0 = 0 then (if (1 ≤ a0_0 ∧ a0_0 ≤ 7) ∧ 12 ≤ k then some (((⟨(bestL a0_0 (mx a0_1 (wrap64 (-a0_1)))).toArray⟩ : ByteArray), (0 : Int)) : ByteArray × Int) else none) else some (⟨#[]⟩, 1)) = some (r1, r2) := h
    have hu23 := Tryz.underlying23
    have hu48 := Tryz.underlying38
    have hb0 := Below.refl w.heap.size w
    have hfd : ∀ (w : World) (a b : Int), (Instr.field 38 (.agg #[.int .i64 a, .int .i64 b]) 1).run Tryz.prog w = .ok (.int .i64 b) w := fun _ _ _ => by kernel_rfl
    by_cases c0 : e0 = 0
    · rw [if_pos c0] at h
      subst c0
      split at h
      · rename_i hk
        obtain ⟨rfl, rfl⟩ : (⟨(bestL a0_0 (mx a0_1 (wrap64 (-a0_1)))).toArray⟩ : ByteArray) = r1 ∧ (0 : Int) = r2 := by
          have := Option.some.inj h
          exact ⟨congrArg Prod.fst this, congrArg Prod.snd this⟩
        go_enter Tryz.func9, Tryz.ntmps9
        go_wp2_with (first
          | ((with_reducible refine gate_dst (N := 1) rfl ?_); refine box_event ?hg (N := 1) ?hd (cs := #[.int .i64 a0_0, .int .i64 a0_1]) (t := 23) ?hr ?_; (case hd => rfl); (case hg => rfl); (case hr => first | (go_simp; done) | (go_simp; rfl)); intro gq hgq w1 hbox1 hb1; have GQ := Aside0.mk hgq; clear hgq; have az0 : w1.cell? ⟨gq, 0, none⟩ = some (.int .i64 a0_0) := (blk_cell hbox1 0).trans rfl; have az1 : w1.cell? ⟨gq, 1, none⟩ = some (.int .i64 a0_1) := (blk_cell hbox1 1).trans rfl; have ez0 := blk_frozen hbox1 0; have ez1 := blk_frozen hbox1 1)
          | (go_at_call 12; refine (unit_Check.calls k a0_0 a0_1 0 _ hc).mono ?_; rintro e w2 ⟨rfl, hb2⟩; have hbox2 := box_stays hbox1 hb2; have cz0 : w2.cell? ⟨gq, 0, none⟩ = some (.int .i64 a0_0) := (blk_cell hbox2 0).trans rfl; have cz1 : w2.cell? ⟨gq, 1, none⟩ = some (.int .i64 a0_1) := (blk_cell hbox2 1).trans rfl; have fz0 := blk_frozen hbox2 0; have fz1 := blk_frozen hbox2 1)
          | (go_at_call 13; refine (unit_units.calls _).mono ?_; rintro e w3 ⟨b, rfl, hm3, hb3, hle3⟩; have hbox3 := box_stays hbox2 hb3)
          | (at_range; refine wpList_range_own _ rfl _ 40 rfl 9 38 (string_keyed Tryz.underlying9) Tryz.underlying40 two2 b 15 _ rfl (by assumption) ?_; intro w4 hrg4 hg4 hs4)
          | (refine wpList_max2 rfl _ _ _ rfl _ _ rfl rfl ?_)
          | go_in)
        go_frame
        generalize hsz : mx a0_1 (wrap64 (-a0_1)) = sz
        have SZ := Aside0.mk hsz
        clear hsz
        have hB2 := below_step hb1 hb2
        have hB3 := below_step hB2 hb3
        have hgq3 : gq < w3.heap.size := (Array.getElem?_eq_some_iff.1 hbox3).1
        have hB4 : Below w.heap.size w w4 := Below.grown hB3 hg4 (Below.size hB3) (fun j hj => by cases hj)
        have hbox4 : w4.heap[gq]? = some (.cells #[.int .i64 a0_0, .int .i64 a0_1] 23 (0, 0)) := (hg4.block gq hgq3 (by simp)).trans hbox3
        go_loopw [4, 5] (fun v4 v5 wr => ∃ (best least : ByteArray) (left : Lit → Bool) (cnt : Nat), v4 = .string best ∧ v5 = .string least ∧ wr.ranges Tryz.prog 9 two2 b w3.heap.size 15 (litMap enc2 tbl) left cnt ∧ Inv a0_0 sz best.data.toList least.data.toList left ∧ wr.heap[gq]? = some (.cells #[.int .i64 a0_0, .int .i64 a0_1] 23 (0, 0)) ∧ Below w.heap.size w wr) (fun _ _ wr => wr.rangeLeft b w3.heap.size)
        case atStart => exact ⟨⟨#[]⟩, ⟨#[]⟩, _, _, rfl, rfl, hrg4, inv_start _ _, hbox4, hB4⟩
        case round =>
          obtain ⟨best, least, left, cnt, rfl, rfl, hrg, hI, hbx, hB⟩ := hrel
          have bz0 := (blk_cell hbx 0).trans rfl
          have bz1 := (blk_cell hbx 1).trans rfl
          have bf0 := blk_frozen hbx 0
          have bf1 := blk_frozen hbx 1
          go_wp2_with (first
            | (at_next; refine wpList_next_two _ rfl _ rfl 9 Tryz.underlying9 b w3.heap.size 15 tbl left cnt rfl hrg ?_ ?_)
            | go_in)
          · intro hc0 hl0
            have hfin := inv_end hk.1 hI hl0
            by_cases cb : best = ⟨#[]⟩
            · subst cb
              rw [if_pos rfl] at hfin
              go_wp2
              go_ret2
              refine ⟨?_, hB⟩
              show _ = Ending.returned (.tuple #[.string ⟨(bestL a0_0 (mx a0_1 (wrap64 (-a0_1)))).toArray⟩, .int .i64 0])
              rw [SZ.out, ← hfin]
              rfl
            · have cbb := str_ne cb
              rw [if_neg (ne_nil cb)] at hfin
              go_wp2
              go_ret2
              refine ⟨?_, hB⟩
              show _ = Ending.returned (.tuple #[.string ⟨(bestL a0_0 (mx a0_1 (wrap64 (-a0_1)))).toArray⟩, .int .i64 0])
              rw [SZ.out, ← hfin]
              rfl
          · intro x p1 p2 w5 cnt5 hxs hlx hat hrg5 hlt5 hg5 hs5 hen5
            have hB5 : Below w.heap.size w w5 := Below.grown hB hg5 (Below.size hB) (fun j hj => by cases hj; exact hB3.size)
            have hbx5 : w5.heap[gq]? = some (.cells #[.int .i64 a0_0, .int .i64 a0_1] 23 (0, 0)) := (hg5.block gq (Array.getElem?_eq_some_iff.1 hbx).1 (fun e => by cases e; exact Nat.lt_irrefl _ hgq3)).trans hbx
            have dz0 := (blk_cell hbx5 0).trans rfl
            have dz1 := (blk_cell hbx5 1).trans rfl
            have df0 := blk_frozen hbx5 0
            have df1 := blk_frozen hbx5 1
            have hsm := unit_small (show unitAt x.data.toList = some (p1, p2) from hat)
            go_upto_region 8 with (first
              | ((with_reducible refine gate_dst (N := 8) rfl ?_); refine box_event ?hg (N := 8) ?hd (cs := #[.int .i64 0, .int .i64 0]) (t := 38) ?hr ?_; (case hd => rfl); (case hg => rfl); (case hr => first | (go_simp; done) | (go_simp; rfl)); intro gu hgu w6 hbox6 hb6; have GU := Aside0.mk hgu; clear hgu; have HB6 := Aside0.mk hb6; have HX6 := Aside0.mk hbox6; clear hb6 hbox6; have uz0 : w6.cell? ⟨gu, 0, none⟩ = some (.int .i64 0) := (blk_cell HX6.out 0).trans rfl; have uz1 : w6.cell? ⟨gu, 1, none⟩ = some (.int .i64 0) := (blk_cell HX6.out 1).trans rfl; have uf0 := blk_frozen HX6.out 0; have uf1 := blk_frozen HX6.out 1))
            (try simp only [Act.put, List.setIfInBounds_toArray, List.set_cons_zero, List.set_cons_succ])
            have HB7 : Aside0 (Below w5.heap.size w5 ((w6.setCell ⟨gu, 0, none⟩ (.int .i64 p1)).setCell ⟨gu, 1, none⟩ (.int .i64 p2))) := ⟨(HB6.out.setCell (p := ⟨gu, 0, none⟩) (Nat.le_of_eq GU.out.symm) _).setCell (p := ⟨gu, 1, none⟩) (Nat.le_of_eq GU.out.symm) _⟩
            have HU : Aside0 (((w6.setCell ⟨gu, 0, none⟩ (.int .i64 p1)).setCell ⟨gu, 1, none⟩ (.int .i64 p2)).heap[gu]? = some (.cells #[.int .i64 p1, .int .i64 p2] 38 (0, 0))) := ⟨blk_put (cs := #[.int .i64 p1, .int .i64 0]) (blk_put (cs := #[.int .i64 0, .int .i64 0]) HX6.out 0 _ rfl) 1 _ rfl⟩
            generalize (w6.setCell ⟨gu, 0, none⟩ (.int .i64 p1)).setCell ⟨gu, 1, none⟩ (.int .i64 p2) = w7 at HB7 HU ⊢
            have HQ := Aside0.mk (box_stays hbx5 HB7.out)
            have HR := Aside0.mk (ranges_below hrg5 HB7.out)
            have HBW := Aside0.mk (below_step hB5 HB7.out)
            clear uz0 uz1 uf0 uf1 HX6 HB6 dz0 dz1 df0 df1
            have qz0 : w7.cell? ⟨gq, 0, none⟩ = some (.int .i64 a0_0) := (blk_cell HQ.out 0).trans rfl
            have qf0 := blk_frozen HQ.out 0
            have vz0 : w7.cell? ⟨gu, 0, none⟩ = some (.int .i64 p1) := (blk_cell HU.out 0).trans rfl
            have vf0 := blk_frozen HU.out 0
            have hI2 := Aside0.mk hI
            have HAT := Aside0.mk hat
            clear hI hat
            by_cases ck : p1 = a0_0
            · have ck2 := ck.symm
              subst ck2
              clear ck
              have ckb : (a0_0 != a0_0) = false := bne_eq_false_iff_eq.mpr rfl
              by_cases cl : least = ⟨#[]⟩
              · subst cl
                go_wp2
                refine start_ (n := 11) (S := fun w' => w'.cell? ⟨gu, 0, none⟩ = some (.int .i64 a0_0) ∧ w'.cell? ⟨gu, 1, none⟩ = some (.int .i64 p2) ∧ w'.heap[gu]? = some (.cells #[.int .i64 a0_0, .int .i64 p2] 38 (0, 0)) ∧ w'.heap[gq]? = some (.cells #[.int .i64 a0_0, .int .i64 a0_1] 23 (0, 0)) ∧ w'.ranges Tryz.prog 9 two2 b w3.heap.size 15 (litMap enc2 tbl) (fun z => left z && !z.sameKey (.string x.data.toList)) cnt5 ∧ Below w.heap.size w w') (ds := []) #[false, false, false, false, false, false, false, false, false, false, false] (by kernel_rfl) rfl rfl ⟨(blk_cell (blk_drew HU.out) 0).trans rfl, (blk_cell (blk_drew HU.out) 1).trans rfl, blk_drew HU.out, blk_drew HQ.out, ranges_drew HR.out, below_drew1 HBW.out⟩ (fun hHeld => ?_)
                generalize w7.drew = Wd at hHeld ⊢
                refine pure_ (i := 0) (N := some 30) (v := ?_) (a' := ?_) #[true, false, false, false, false, false, false, false, false, false, false] rfl rfl (by kernel_rfl) (fun _ _ _ h => h) (Or.inl ⟨by rfl, ?_⟩) ?_ ?_
                rotate_left
                · intro w'
                  go_simp
                  with_reducible rfl
                rotate_left
                · simp only [Act.put, List.setIfInBounds_toArray, List.set_cons_zero, List.set_cons_succ, i64_w, i32_w]
                  rfl
                refine pure_ (i := 1) (N := some 31) (v := ?_) (a' := ?_) #[true, true, false, false, false, false, false, false, false, false, false] rfl rfl (by kernel_rfl) (fun _ _ _ h => h) (Or.inl ⟨by rfl, ?_⟩) ?_ ?_
                rotate_left
                · intro w'
                  go_simp
                  with_reducible rfl
                rotate_left
                · simp only [Act.put, List.setIfInBounds_toArray, List.set_cons_zero, List.set_cons_succ, i64_w, i32_w]
                  rfl
                refine pure_ (i := 2) (N := some 32) (v := ?_) (a' := ?_) #[true, true, true, false, false, false, false, false, false, false, false] rfl rfl (by kernel_rfl) (fun _ _ _ h => h) (Or.inl ⟨by rfl, ?_⟩) ?_ ?_
                rotate_left
                · intro w'
                  go_simp
                  with_reducible rfl
                rotate_left
                · simp only [Act.put, List.setIfInBounds_toArray, List.set_cons_zero, List.set_cons_succ, i64_w, i32_w]
                  rfl
                refine pure_ (i := 3) (N := some 33) (v := undef) (a' := ?_) #[true, true, true, true, false, false, false, false, false, false, false] rfl rfl (by kernel_rfl) (fun _ _ _ h => h) (Or.inr ⟨by rfl, rfl⟩) ?_ ?_
                rotate_left
                · simp only [Act.put, List.setIfInBounds_toArray, List.set_cons_zero, List.set_cons_succ, i64_w, i32_w]
                  rfl
                refine pure_ (i := 4) (N := some 34) (v := undef) (a' := ?_) #[true, true, true, true, true, false, false, false, false, false, false] rfl rfl (by kernel_rfl) (fun _ _ _ h => h) (Or.inr ⟨by rfl, rfl⟩) ?_ ?_
                rotate_left
                · simp only [Act.put, List.setIfInBounds_toArray, List.set_cons_zero, List.set_cons_succ, i64_w, i32_w]
                  rfl
                refine pure_ (i := 5) (N := some 35) (v := undef) (a' := ?_) #[true, true, true, true, true, true, false, false, false, false, false] rfl rfl (by kernel_rfl) (fun _ _ _ h => h) (Or.inr ⟨by rfl, rfl⟩) ?_ ?_
                rotate_left
                · simp only [Act.put, List.setIfInBounds_toArray, List.set_cons_zero, List.set_cons_succ, i64_w, i32_w]
                  rfl
                refine pure_ (i := 6) (N := some 36) (v := undef) (a' := ?_) #[true, true, true, true, true, true, true, false, false, false, false] rfl rfl (by kernel_rfl) (fun _ _ _ h => h) (Or.inr ⟨by rfl, rfl⟩) ?_ ?_
                rotate_left
                · simp only [Act.put, List.setIfInBounds_toArray, List.set_cons_zero, List.set_cons_succ, i64_w, i32_w]
                  rfl
                refine pure_ (i := 7) (N := some 37) (v := undef) (a' := ?_) #[true, true, true, true, true, true, true, true, false, false, false] rfl rfl (by kernel_rfl) (fun _ _ _ h => h) (Or.inr ⟨by rfl, rfl⟩) ?_ ?_
                rotate_left
                · simp only [Act.put, List.setIfInBounds_toArray, List.set_cons_zero, List.set_cons_succ, i64_w, i32_w]
                  rfl
                refine pure_ (i := 8) (N := some 38) (v := undef) (a' := ?_) #[true, true, true, true, true, true, true, true, true, false, false] rfl rfl (by kernel_rfl) (fun _ _ _ h => h) (Or.inr ⟨by rfl, rfl⟩) ?_ ?_
                rotate_left
                · simp only [Act.put, List.setIfInBounds_toArray, List.set_cons_zero, List.set_cons_succ, i64_w, i32_w]
                  rfl
                refine pure_ (i := 9) (N := some 39) (v := undef) (a' := ?_) #[true, true, true, true, true, true, true, true, true, true, false] rfl rfl (by kernel_rfl) (fun _ _ _ h => h) (Or.inr ⟨by rfl, rfl⟩) ?_ ?_
                rotate_left
                · simp only [Act.put, List.setIfInBounds_toArray, List.set_cons_zero, List.set_cons_succ, i64_w, i32_w]
                  rfl
                refine pure_ (i := 10) (N := some 40) (v := ?_) (a' := ?_) #[true, true, true, true, true, true, true, true, true, true, true] rfl rfl (by kernel_rfl) (fun _ _ _ h => h) (Or.inl ⟨by rfl, ?_⟩) ?_ ?_
                rotate_left
                · intro w'
                  go_simp
                  with_reducible rfl
                rotate_left
                · simp only [Act.put, List.setIfInBounds_toArray, List.set_cons_zero, List.set_cons_succ, i64_w, i32_w]
                  rfl
                refine done_ (by kernel_rfl) ?_
                go_wp2
                have HL : Aside0 (((⟨#[]⟩ : ByteArray).data.toList = [] ∨ p2 < zOf (⟨#[]⟩ : ByteArray).data.toList) ∧ x.data.toList = x.data.toList ∨ ((⟨#[]⟩ : ByteArray).data.toList ≠ [] ∧ zOf (⟨#[]⟩ : ByteArray).data.toList ≤ p2) ∧ x.data.toList = (⟨#[]⟩ : ByteArray).data.toList) := ⟨Or.inl ⟨Or.inl rfl, rfl⟩⟩
                have HU2 := Aside0.mk hHeld.2.2.1
                have HQ2 := Aside0.mk hHeld.2.2.2.1
                have HR2 := Aside0.mk hHeld.2.2.2.2.1
                have HBW2 := Aside0.mk hHeld.2.2.2.2.2
                clear hHeld
                obtain ⟨fz, hfz⟩ : ∃ fz : Int, fz = ((10 ^ p2.toNat : Nat) : Int) := ⟨_, rfl⟩
                have HF : Aside0 (unit_unit_factor.f k a0_0 p2 = some fz) := ⟨by rw [hfz]; exact fact_at k a0_0 p2 hsm.2.1 hsm.2.2 hk.2⟩
                have HFZ := Aside0.mk hfz
                clear hfz
                by_cases cs : fz ≤ sz
                · have csb : decide (fz ≤ sz) = true := decide_eq_true cs
                  by_cases cb : best = ⟨#[]⟩
                  · subst cb
                    refine start_ (n := 17) (S := fun w' => w'.cell? ⟨gu, 0, none⟩ = some (.int .i64 a0_0) ∧ w'.cell? ⟨gu, 1, none⟩ = some (.int .i64 p2) ∧ w'.heap[gu]? = some (.cells #[.int .i64 a0_0, .int .i64 p2] 38 (0, 0)) ∧ w'.heap[gq]? = some (.cells #[.int .i64 a0_0, .int .i64 a0_1] 23 (0, 0)) ∧ w'.ranges Tryz.prog 9 two2 b w3.heap.size 15 (litMap enc2 tbl) (fun z => left z && !z.sameKey (.string x.data.toList)) cnt5 ∧ Below w.heap.size w w') (ds := []) #[false, false, false, false, false, false, false, false, false, false, false, false, false, false, false, false, false] (by kernel_rfl) rfl rfl ⟨(blk_cell (blk_drew HU2.out) 0).trans rfl, (blk_cell (blk_drew HU2.out) 1).trans rfl, blk_drew HU2.out, blk_drew HQ2.out, ranges_drew HR2.out, below_drew1 HBW2.out⟩ (fun hHeld => ?_)
                    generalize World.drew _ = We at hHeld ⊢
                    refine pure_ (i := 2) (N := some 44) (v := ?_) (a' := ?_) #[false, false, true, false, false, false, false, false, false, false, false, false, false, false, false, false, false] rfl rfl (by kernel_rfl) (fun _ _ _ h => h) (Or.inl ⟨by rfl, ?_⟩) ?_ ?_
                    rotate_left
                    · intro w'
                      go_simp
                      with_reducible rfl
                    rotate_left
                    · simp only [Act.put, List.setIfInBounds_toArray, List.set_cons_zero, List.set_cons_succ, i64_w, i32_w]
                      rfl
                    refine take_ (i := 0) (N := some 42) (v := ?_) (a' := ?_) #[true, false, true, false, false, false, false, false, false, false, false, false, false, false, false, false, false] rfl rfl (by kernel_rfl) (fun _ _ _ h => h) (Or.inl ⟨by rfl, ?_⟩) hHeld ?_ ?_
                    rotate_left
                    · rintro w' ⟨s0, s1, s2, s3, s4, s5⟩
                      go_simp
                      with_reducible rfl
                    rotate_left
                    · simp only [Act.put, List.setIfInBounds_toArray, List.set_cons_zero, List.set_cons_succ, i64_w, i32_w]
                      rfl
                    refine one_ (i := 1) (N := some 43) #[true, true, true, false, false, false, false, false, false, false, false, false, false, false, false, false, false] rfl rfl (by kernel_rfl) (by decide) (fun K hK => ?_)
                    refine goes_ Tryz.func28 (by kernel_rfl) rfl #[.agg #[.int .i64 a0_0, .int .i64 p2]] (by rfl) rfl rfl (by first | rfl | (simp only [List.map_toArray, List.map_cons, List.map_nil]; done) | (simp only [List.map_toArray, List.map_cons, List.map_nil]; rfl)) ?_
                    with_reducible refine (unit_unit_factor.calls k a0_0 p2 _ _ HF.out).mono ?_
                    rintro e w9 ⟨rfl, hb9⟩
                    refine ⟨_, rfl, ?_⟩
                    refine hK.out _ _ ⟨((hb9.cell (World.block_lt_of_cell? _ _ (hHeld.1))).trans (hHeld.1)), ((hb9.cell (World.block_lt_of_cell? _ _ (hHeld.2.1))).trans (hHeld.2.1)), box_stays (hHeld.2.2.1) hb9, box_stays (hHeld.2.2.2.1) hb9, ranges_below (hHeld.2.2.2.2.1) hb9, below_step (hHeld.2.2.2.2.2) hb9⟩ (fun hHeld => ?_)
                    clear hK K
                    refine norm_ (a' := ?_) ?_ ?_
                    rotate_left
                    · show Act.put _ (some 43) _ = _
                      simp only [Act.put, List.setIfInBounds_toArray, List.set_cons_zero, List.set_cons_succ, i64_w, i32_w]
                      rfl
                    refine pure_ (i := 3) (N := some 45) (v := ?_) (a' := ?_) #[true, true, true, true, false, false, false, false, false, false, false, false, false, false, false, false, false] rfl rfl (by kernel_rfl) (fun _ _ _ h => h) (Or.inl ⟨by rfl, ?_⟩) ?_ ?_
                    rotate_left
                    · intro w'
                      go_simp
                      with_reducible rfl
                    rotate_left
                    · simp only [Act.put, List.setIfInBounds_toArray, List.set_cons_zero, List.set_cons_succ, i64_w, i32_w]
                      rfl
                    refine pure_ (i := 4) (N := some 46) (v := ?_) (a' := ?_) #[true, true, true, true, true, false, false, false, false, false, false, false, false, false, false, false, false] rfl rfl (by kernel_rfl) (fun _ _ _ h => h) (Or.inl ⟨by rfl, ?_⟩) ?_ ?_
                    rotate_left
                    · intro w'
                      go_simp
                      with_reducible rfl
                    rotate_left
                    · simp only [Act.put, List.setIfInBounds_toArray, List.set_cons_zero, List.set_cons_succ, i64_w, i32_w]
                      rfl
                    refine pure_ (i := 5) (N := some 47) (v := ?_) (a' := ?_) #[true, true, true, true, true, true, false, false, false, false, false, false, false, false, false, false, false] rfl rfl (by kernel_rfl) (fun _ _ _ h => h) (Or.inl ⟨by rfl, ?_⟩) ?_ ?_
                    rotate_left
                    · intro w'
                      go_simp
                      with_reducible rfl
                    rotate_left
                    · simp only [Act.put, List.setIfInBounds_toArray, List.set_cons_zero, List.set_cons_succ, i64_w, i32_w]
                      rfl
                    refine pure_ (i := 6) (N := some 48) (v := ?_) (a' := ?_) #[true, true, true, true, true, true, true, false, false, false, false, false, false, false, false, false, false] rfl rfl (by kernel_rfl) (fun _ _ _ h => h) (Or.inl ⟨by rfl, ?_⟩) ?_ ?_
                    rotate_left
                    · intro w'
                      go_simp
                      with_reducible rfl
                    rotate_left
                    · simp only [Act.put, List.setIfInBounds_toArray, List.set_cons_zero, List.set_cons_succ, i64_w, i32_w]
                      rfl
                    refine pure_ (i := 7) (N := some 49) (v := ?_) (a' := ?_) #[true, true, true, true, true, true, true, true, false, false, false, false, false, false, false, false, false] rfl rfl (by kernel_rfl) (fun _ _ _ h => h) (Or.inl ⟨by rfl, ?_⟩) ?_ ?_
                    rotate_left
                    · intro w'
                      go_simp
                      with_reducible rfl
                    rotate_left
                    · simp only [Act.put, List.setIfInBounds_toArray, List.set_cons_zero, List.set_cons_succ, i64_w, i32_w]
                      rfl
                    refine pure_ (i := 8) (N := some 50) (v := undef) (a' := ?_) #[true, true, true, true, true, true, true, true, true, false, false, false, false, false, false, false, false] rfl rfl (by kernel_rfl) (fun _ _ _ h => h) (Or.inr ⟨by rfl, rfl⟩) ?_ ?_
                    rotate_left
                    · simp only [Act.put, List.setIfInBounds_toArray, List.set_cons_zero, List.set_cons_succ, i64_w, i32_w]
                      rfl
                    refine pure_ (i := 9) (N := some 51) (v := undef) (a' := ?_) #[true, true, true, true, true, true, true, true, true, true, false, false, false, false, false, false, false] rfl rfl (by kernel_rfl) (fun _ _ _ h => h) (Or.inr ⟨by rfl, rfl⟩) ?_ ?_
                    rotate_left
                    · simp only [Act.put, List.setIfInBounds_toArray, List.set_cons_zero, List.set_cons_succ, i64_w, i32_w]
                      rfl
                    refine pure_ (i := 10) (N := some 52) (v := undef) (a' := ?_) #[true, true, true, true, true, true, true, true, true, true, true, false, false, false, false, false, false] rfl rfl (by kernel_rfl) (fun _ _ _ h => h) (Or.inr ⟨by rfl, rfl⟩) ?_ ?_
                    rotate_left
                    · simp only [Act.put, List.setIfInBounds_toArray, List.set_cons_zero, List.set_cons_succ, i64_w, i32_w]
                      rfl
                    refine pure_ (i := 11) (N := some 53) (v := undef) (a' := ?_) #[true, true, true, true, true, true, true, true, true, true, true, true, false, false, false, false, false] rfl rfl (by kernel_rfl) (fun _ _ _ h => h) (Or.inr ⟨by rfl, rfl⟩) ?_ ?_
                    rotate_left
                    · simp only [Act.put, List.setIfInBounds_toArray, List.set_cons_zero, List.set_cons_succ, i64_w, i32_w]
                      rfl
                    refine pure_ (i := 12) (N := some 54) (v := undef) (a' := ?_) #[true, true, true, true, true, true, true, true, true, true, true, true, true, false, false, false, false] rfl rfl (by kernel_rfl) (fun _ _ _ h => h) (Or.inr ⟨by rfl, rfl⟩) ?_ ?_
                    rotate_left
                    · simp only [Act.put, List.setIfInBounds_toArray, List.set_cons_zero, List.set_cons_succ, i64_w, i32_w]
                      rfl
                    refine pure_ (i := 13) (N := some 55) (v := undef) (a' := ?_) #[true, true, true, true, true, true, true, true, true, true, true, true, true, true, false, false, false] rfl rfl (by kernel_rfl) (fun _ _ _ h => h) (Or.inr ⟨by rfl, rfl⟩) ?_ ?_
                    rotate_left
                    · simp only [Act.put, List.setIfInBounds_toArray, List.set_cons_zero, List.set_cons_succ, i64_w, i32_w]
                      rfl
                    refine pure_ (i := 14) (N := some 56) (v := undef) (a' := ?_) #[true, true, true, true, true, true, true, true, true, true, true, true, true, true, true, false, false] rfl rfl (by kernel_rfl) (fun _ _ _ h => h) (Or.inr ⟨by rfl, rfl⟩) ?_ ?_
                    rotate_left
                    · simp only [Act.put, List.setIfInBounds_toArray, List.set_cons_zero, List.set_cons_succ, i64_w, i32_w]
                      rfl
                    refine pure_ (i := 15) (N := some 57) (v := ?_) (a' := ?_) #[true, true, true, true, true, true, true, true, true, true, true, true, true, true, true, true, false] rfl rfl (by kernel_rfl) (fun _ _ _ h => h) (Or.inl ⟨by rfl, ?_⟩) ?_ ?_
                    rotate_left
                    · intro w'
                      go_simp
                      with_reducible rfl
                    rotate_left
                    · simp only [Act.put, List.setIfInBounds_toArray, List.set_cons_zero, List.set_cons_succ, i64_w, i32_w]
                      rfl
                    refine pure_ (i := 16) (N := some 58) (v := ?_) (a' := ?_) #[true, true, true, true, true, true, true, true, true, true, true, true, true, true, true, true, true] rfl rfl (by kernel_rfl) (fun _ _ _ h => h) (Or.inl ⟨by rfl, ?_⟩) ?_ ?_
                    rotate_left
                    · intro w'
                      go_simp
                      with_reducible rfl
                    rotate_left
                    · simp only [Act.put, List.setIfInBounds_toArray, List.set_cons_zero, List.set_cons_succ, i64_w, i32_w]
                      rfl
                    refine done_ (by kernel_rfl) ?_
                    go_wp2
                    refine ⟨⟨x, x, _, cnt5, rfl, rfl, hHeld.2.2.2.2.1, inv_step hI2.out HAT.out rfl HL.out (Or.inl ⟨⟨HFZ.out ▸ cs, Or.inl rfl⟩, rfl⟩), hHeld.2.2.2.1, hHeld.2.2.2.2.2⟩, ?_⟩
                    rw [hHeld.2.2.2.2.1.left_eq, hrg.left_eq]
                    exact hlt5
                  · have cbb := str_ne cb
                    obtain ⟨zb, hzb, _⟩ := hI2.out.b0 (ne_nil cb)
                    have HZ_best := Aside0.mk hzb
                    have hzb9 : zOf best.data.toList = zb := by unfold zOf; rw [hzb]; rfl
                    have HZB9 := Aside0.mk hzb9
                    clear hzb hzb9
                    refine start_ (n := 17) (S := fun w' => w'.cell? ⟨gu, 0, none⟩ = some (.int .i64 a0_0) ∧ w'.cell? ⟨gu, 1, none⟩ = some (.int .i64 p2) ∧ w'.heap[gu]? = some (.cells #[.int .i64 a0_0, .int .i64 p2] 38 (0, 0)) ∧ w'.heap[gq]? = some (.cells #[.int .i64 a0_0, .int .i64 a0_1] 23 (0, 0)) ∧ w'.ranges Tryz.prog 9 two2 b w3.heap.size 15 (litMap enc2 tbl) (fun z => left z && !z.sameKey (.string x.data.toList)) cnt5 ∧ Below w.heap.size w w') (ds := []) #[false, false, false, false, false, false, false, false, false, false, false, false, false, false, false, false, false] (by kernel_rfl) rfl rfl ⟨(blk_cell (blk_drew HU2.out) 0).trans rfl, (blk_cell (blk_drew HU2.out) 1).trans rfl, blk_drew HU2.out, blk_drew HQ2.out, ranges_drew HR2.out, below_drew1 HBW2.out⟩ (fun hHeld => ?_)
                    generalize World.drew _ = We at hHeld ⊢
                    refine pure_ (i := 2) (N := some 44) (v := ?_) (a' := ?_) #[false, false, true, false, false, false, false, false, false, false, false, false, false, false, false, false, false] rfl rfl (by kernel_rfl) (fun _ _ _ h => h) (Or.inl ⟨by rfl, ?_⟩) ?_ ?_
                    rotate_left
                    · intro w'
                      go_simp
                      with_reducible rfl
                    rotate_left
                    · simp only [Act.put, List.setIfInBounds_toArray, List.set_cons_zero, List.set_cons_succ, i64_w, i32_w]
                      rfl
                    refine take_ (i := 0) (N := some 42) (v := ?_) (a' := ?_) #[true, false, true, false, false, false, false, false, false, false, false, false, false, false, false, false, false] rfl rfl (by kernel_rfl) (fun _ _ _ h => h) (Or.inl ⟨by rfl, ?_⟩) hHeld ?_ ?_
                    rotate_left
                    · rintro w' ⟨s0, s1, s2, s3, s4, s5⟩
                      go_simp
                      with_reducible rfl
                    rotate_left
                    · simp only [Act.put, List.setIfInBounds_toArray, List.set_cons_zero, List.set_cons_succ, i64_w, i32_w]
                      rfl
                    refine one_ (i := 1) (N := some 43) #[true, true, true, false, false, false, false, false, false, false, false, false, false, false, false, false, false] rfl rfl (by kernel_rfl) (by decide) (fun K hK => ?_)
                    refine goes_ Tryz.func28 (by kernel_rfl) rfl #[.agg #[.int .i64 a0_0, .int .i64 p2]] (by rfl) rfl rfl (by first | rfl | (simp only [List.map_toArray, List.map_cons, List.map_nil]; done) | (simp only [List.map_toArray, List.map_cons, List.map_nil]; rfl)) ?_
                    with_reducible refine (unit_unit_factor.calls k a0_0 p2 _ _ HF.out).mono ?_
                    rintro e w9 ⟨rfl, hb9⟩
                    refine ⟨_, rfl, ?_⟩
                    refine hK.out _ _ ⟨((hb9.cell (World.block_lt_of_cell? _ _ (hHeld.1))).trans (hHeld.1)), ((hb9.cell (World.block_lt_of_cell? _ _ (hHeld.2.1))).trans (hHeld.2.1)), box_stays (hHeld.2.2.1) hb9, box_stays (hHeld.2.2.2.1) hb9, ranges_below (hHeld.2.2.2.2.1) hb9, below_step (hHeld.2.2.2.2.2) hb9⟩ (fun hHeld => ?_)
                    clear hK K
                    refine norm_ (a' := ?_) ?_ ?_
                    rotate_left
                    · show Act.put _ (some 43) _ = _
                      simp only [Act.put, List.setIfInBounds_toArray, List.set_cons_zero, List.set_cons_succ, i64_w, i32_w]
                      rfl
                    refine pure_ (i := 3) (N := some 45) (v := ?_) (a' := ?_) #[true, true, true, true, false, false, false, false, false, false, false, false, false, false, false, false, false] rfl rfl (by kernel_rfl) (fun _ _ _ h => h) (Or.inl ⟨by rfl, ?_⟩) ?_ ?_
                    rotate_left
                    · intro w'
                      go_simp
                      with_reducible rfl
                    rotate_left
                    · simp only [Act.put, List.setIfInBounds_toArray, List.set_cons_zero, List.set_cons_succ, i64_w, i32_w]
                      rfl
                    refine pure_ (i := 4) (N := some 46) (v := ?_) (a' := ?_) #[true, true, true, true, true, false, false, false, false, false, false, false, false, false, false, false, false] rfl rfl (by kernel_rfl) (fun _ _ _ h => h) (Or.inl ⟨by rfl, ?_⟩) ?_ ?_
                    rotate_left
                    · intro w'
                      go_simp
                      with_reducible rfl
                    rotate_left
                    · simp only [Act.put, List.setIfInBounds_toArray, List.set_cons_zero, List.set_cons_succ, i64_w, i32_w]
                      rfl
                    refine pure_ (i := 5) (N := some 47) (v := ?_) (a' := ?_) #[true, true, true, true, true, true, false, false, false, false, false, false, false, false, false, false, false] rfl rfl (by kernel_rfl) (fun _ _ _ h => h) (Or.inl ⟨by rfl, ?_⟩) ?_ ?_
                    rotate_left
                    · intro w'
                      go_simp
                      with_reducible rfl
                    rotate_left
                    · simp only [Act.put, List.setIfInBounds_toArray, List.set_cons_zero, List.set_cons_succ, i64_w, i32_w]
                      rfl
                    refine pure_ (i := 6) (N := some 48) (v := ?_) (a' := ?_) #[true, true, true, true, true, true, true, false, false, false, false, false, false, false, false, false, false] rfl rfl (by kernel_rfl) (fun _ _ _ h => h) (Or.inl ⟨by rfl, ?_⟩) ?_ ?_
                    rotate_left
                    · intro w'
                      go_simp
                      with_reducible rfl
                    rotate_left
                    · simp only [Act.put, List.setIfInBounds_toArray, List.set_cons_zero, List.set_cons_succ, i64_w, i32_w]
                      rfl
                    refine pure_ (i := 7) (N := some 49) (v := ?_) (a' := ?_) #[true, true, true, true, true, true, true, true, false, false, false, false, false, false, false, false, false] rfl rfl (by kernel_rfl) (fun _ _ _ h => h) (Or.inl ⟨by rfl, ?_⟩) ?_ ?_
                    rotate_left
                    · intro w'
                      go_simp
                      with_reducible rfl
                    rotate_left
                    · simp only [Act.put, List.setIfInBounds_toArray, List.set_cons_zero, List.set_cons_succ, i64_w, i32_w]
                      rfl
                    refine pure_ (i := 8) (N := some 50) (v := ?_) (a' := ?_) #[true, true, true, true, true, true, true, true, true, false, false, false, false, false, false, false, false] rfl rfl (by kernel_rfl) (fun _ _ _ h => h) (Or.inl ⟨by rfl, ?_⟩) ?_ ?_
                    rotate_left
                    · intro w'
                      go_simp
                      with_reducible rfl
                    rotate_left
                    · simp only [Act.put, List.setIfInBounds_toArray, List.set_cons_zero, List.set_cons_succ, i64_w, i32_w]
                      rfl
                    refine pure_ (i := 11) (N := some 53) (v := ?_) (a' := ?_) #[true, true, true, true, true, true, true, true, true, false, false, true, false, false, false, false, false] rfl rfl (by kernel_rfl) (fun _ _ _ h => h) (Or.inl ⟨by rfl, ?_⟩) ?_ ?_
                    rotate_left
                    · intro w'
                      go_simp
                      with_reducible rfl
                    rotate_left
                    · simp only [Act.put, List.setIfInBounds_toArray, List.set_cons_zero, List.set_cons_succ, i64_w, i32_w]
                      rfl
                    refine take_ (i := 9) (N := some 51) (v := ?_) (a' := ?_) #[true, true, true, true, true, true, true, true, true, true, false, true, false, false, false, false, false] rfl rfl (by kernel_rfl) (fun _ _ _ h => h) (Or.inl ⟨by rfl, ?_⟩) hHeld ?_ ?_
                    rotate_left
                    · rintro w' ⟨s0, s1, s2, s3, s4, s5⟩
                      go_simp
                      with_reducible rfl
                    rotate_left
                    · simp only [Act.put, List.setIfInBounds_toArray, List.set_cons_zero, List.set_cons_succ, i64_w, i32_w]
                      rfl
                    refine one_ (i := 10) (N := some 52) #[true, true, true, true, true, true, true, true, true, true, true, true, false, false, false, false, false] rfl rfl (by kernel_rfl) (by decide) (fun K hK => ?_)
                    refine goes_ Tryz.func13 (by kernel_rfl) rfl #[] (by rfl) rfl rfl (by first | rfl | (simp only [List.map_toArray, List.map_cons, List.map_nil]; done) | (simp only [List.map_toArray, List.map_cons, List.map_nil]; rfl)) ?_
                    with_reducible refine (unit_units.calls _).mono ?_
                    rintro e w10 ⟨b10, rfl, hm10, hb10, hle10⟩
                    refine ⟨_, rfl, ?_⟩
                    refine hK.out _ _ ⟨((hb10.cell (World.block_lt_of_cell? _ _ (hHeld.1))).trans (hHeld.1)), ((hb10.cell (World.block_lt_of_cell? _ _ (hHeld.2.1))).trans (hHeld.2.1)), box_stays (hHeld.2.2.1) hb10, box_stays (hHeld.2.2.2.1) hb10, ranges_below (hHeld.2.2.2.2.1) hb10, below_step (hHeld.2.2.2.2.2) hb10⟩ (fun hHeld => ?_)
                    clear hK K
                    refine norm_ (a' := ?_) ?_ ?_
                    rotate_left
                    · show Act.put _ (some 52) _ = _
                      simp only [Act.put, List.setIfInBounds_toArray, List.set_cons_zero, List.set_cons_succ, i64_w, i32_w]
                      rfl
                    refine one_ (i := 12) (N := some 54) #[true, true, true, true, true, true, true, true, true, true, true, true, true, false, false, false, false] rfl rfl (by kernel_rfl) (by decide) (fun K hK => ?_)
                    have hlk10 := look_at hm10 HZ_best.out
                    refine value_ (w1 := ?_) (v := ?_) (by rfl) rfl ?_ ?_
                    rotate_left 2
                    · go_simp
                      constructor
                      · rfl
                      · rfl
                    refine hK.out _ _ ⟨hHeld.1, hHeld.2.1, hHeld.2.2.1, hHeld.2.2.2.1, hHeld.2.2.2.2.1, hHeld.2.2.2.2.2⟩ (fun hHeld => ?_)
                    clear hK K
                    refine norm_ (a' := ?_) ?_ ?_
                    rotate_left
                    · show Act.put _ (some 54) _ = _
                      simp only [Act.put, List.setIfInBounds_toArray, List.set_cons_zero, List.set_cons_succ, i64_w, i32_w]
                      rfl
                    refine pure_ (i := 13) (N := some 55) (v := ?_) (a' := ?_) #[true, true, true, true, true, true, true, true, true, true, true, true, true, true, false, false, false] rfl rfl (by kernel_rfl) (fun _ _ _ h => h) (Or.inl ⟨by rfl, ?_⟩) ?_ ?_
                    rotate_left
                    · intro w'
                      go_simp
                      with_reducible rfl
                    rotate_left
                    · simp only [Act.put, List.setIfInBounds_toArray, List.set_cons_zero, List.set_cons_succ, i64_w, i32_w]
                      rfl
                    refine pure_ (i := 14) (N := some 56) (v := ?_) (a' := ?_) #[true, true, true, true, true, true, true, true, true, true, true, true, true, true, true, false, false] rfl rfl (by kernel_rfl) (fun _ _ _ h => h) (Or.inl ⟨by rfl, ?_⟩) ?_ ?_
                    rotate_left
                    · intro w'
                      go_simp
                      with_reducible rfl
                    rotate_left
                    · simp only [Act.put, List.setIfInBounds_toArray, List.set_cons_zero, List.set_cons_succ, i64_w, i32_w]
                      rfl
                    refine pure_ (i := 15) (N := some 57) (v := ?_) (a' := ?_) #[true, true, true, true, true, true, true, true, true, true, true, true, true, true, true, true, false] rfl rfl (by kernel_rfl) (fun _ _ _ h => h) (Or.inl ⟨by rfl, ?_⟩) ?_ ?_
                    rotate_left
                    · intro w'
                      go_simp
                      with_reducible rfl
                    rotate_left
                    · simp only [Act.put, List.setIfInBounds_toArray, List.set_cons_zero, List.set_cons_succ, i64_w, i32_w]
                      rfl
                    refine pure_ (i := 16) (N := some 58) (v := ?_) (a' := ?_) #[true, true, true, true, true, true, true, true, true, true, true, true, true, true, true, true, true] rfl rfl (by kernel_rfl) (fun _ _ _ h => h) (Or.inl ⟨by rfl, ?_⟩) ?_ ?_
                    rotate_left
                    · intro w'
                      go_simp
                      with_reducible rfl
                    rotate_left
                    · simp only [Act.put, List.setIfInBounds_toArray, List.set_cons_zero, List.set_cons_succ, i64_w, i32_w]
                      rfl
                    refine done_ (by kernel_rfl) ?_
                    by_cases cg : p2 > zb
                    · have cgb : decide (p2 > zb) = true := decide_eq_true cg
                      go_wp2
                      refine ⟨⟨x, x, _, cnt5, rfl, rfl, hHeld.2.2.2.2.1, inv_step hI2.out HAT.out rfl HL.out (Or.inl ⟨⟨HFZ.out ▸ cs, Or.inr (by rw [HZB9.out]; exact cg)⟩, rfl⟩), hHeld.2.2.2.1, hHeld.2.2.2.2.2⟩, ?_⟩
                      rw [hHeld.2.2.2.2.1.left_eq, hrg.left_eq]
                      exact hlt5
                    · have cgb : decide (p2 > zb) = false := decide_eq_false cg
                      go_wp2
                      refine ⟨⟨best, x, _, cnt5, rfl, rfl, hHeld.2.2.2.2.1, inv_step hI2.out HAT.out rfl HL.out (Or.inr ⟨Or.inr ⟨ne_nil cb, by rw [HZB9.out]; omega⟩, rfl⟩), hHeld.2.2.2.1, hHeld.2.2.2.2.2⟩, ?_⟩
                      rw [hHeld.2.2.2.2.1.left_eq, hrg.left_eq]
                      exact hlt5
                · have csb : decide (fz ≤ sz) = false := decide_eq_false cs
                  refine start_ (n := 17) (S := fun w' => w'.cell? ⟨gu, 0, none⟩ = some (.int .i64 a0_0) ∧ w'.cell? ⟨gu, 1, none⟩ = some (.int .i64 p2) ∧ w'.heap[gu]? = some (.cells #[.int .i64 a0_0, .int .i64 p2] 38 (0, 0)) ∧ w'.heap[gq]? = some (.cells #[.int .i64 a0_0, .int .i64 a0_1] 23 (0, 0)) ∧ w'.ranges Tryz.prog 9 two2 b w3.heap.size 15 (litMap enc2 tbl) (fun z => left z && !z.sameKey (.string x.data.toList)) cnt5 ∧ Below w.heap.size w w') (ds := []) #[false, false, false, false, false, false, false, false, false, false, false, false, false, false, false, false, false] (by kernel_rfl) rfl rfl ⟨(blk_cell (blk_drew HU2.out) 0).trans rfl, (blk_cell (blk_drew HU2.out) 1).trans rfl, blk_drew HU2.out, blk_drew HQ2.out, ranges_drew HR2.out, below_drew1 HBW2.out⟩ (fun hHeld => ?_)
                  generalize World.drew _ = We at hHeld ⊢
                  refine pure_ (i := 2) (N := some 44) (v := ?_) (a' := ?_) #[false, false, true, false, false, false, false, false, false, false, false, false, false, false, false, false, false] rfl rfl (by kernel_rfl) (fun _ _ _ h => h) (Or.inl ⟨by rfl, ?_⟩) ?_ ?_
                  rotate_left
                  · intro w'
                    go_simp
                    with_reducible rfl
                  rotate_left
                  · simp only [Act.put, List.setIfInBounds_toArray, List.set_cons_zero, List.set_cons_succ, i64_w, i32_w]
                    rfl
                  refine take_ (i := 0) (N := some 42) (v := ?_) (a' := ?_) #[true, false, true, false, false, false, false, false, false, false, false, false, false, false, false, false, false] rfl rfl (by kernel_rfl) (fun _ _ _ h => h) (Or.inl ⟨by rfl, ?_⟩) hHeld ?_ ?_
                  rotate_left
                  · rintro w' ⟨s0, s1, s2, s3, s4, s5⟩
                    go_simp
                    with_reducible rfl
                  rotate_left
                  · simp only [Act.put, List.setIfInBounds_toArray, List.set_cons_zero, List.set_cons_succ, i64_w, i32_w]
                    rfl
                  refine one_ (i := 1) (N := some 43) #[true, true, true, false, false, false, false, false, false, false, false, false, false, false, false, false, false] rfl rfl (by kernel_rfl) (by decide) (fun K hK => ?_)
                  refine goes_ Tryz.func28 (by kernel_rfl) rfl #[.agg #[.int .i64 a0_0, .int .i64 p2]] (by rfl) rfl rfl (by first | rfl | (simp only [List.map_toArray, List.map_cons, List.map_nil]; done) | (simp only [List.map_toArray, List.map_cons, List.map_nil]; rfl)) ?_
                  with_reducible refine (unit_unit_factor.calls k a0_0 p2 _ _ HF.out).mono ?_
                  rintro e w9 ⟨rfl, hb9⟩
                  refine ⟨_, rfl, ?_⟩
                  refine hK.out _ _ ⟨((hb9.cell (World.block_lt_of_cell? _ _ (hHeld.1))).trans (hHeld.1)), ((hb9.cell (World.block_lt_of_cell? _ _ (hHeld.2.1))).trans (hHeld.2.1)), box_stays (hHeld.2.2.1) hb9, box_stays (hHeld.2.2.2.1) hb9, ranges_below (hHeld.2.2.2.2.1) hb9, below_step (hHeld.2.2.2.2.2) hb9⟩ (fun hHeld => ?_)
                  clear hK K
                  refine norm_ (a' := ?_) ?_ ?_
                  rotate_left
                  · show Act.put _ (some 43) _ = _
                    simp only [Act.put, List.setIfInBounds_toArray, List.set_cons_zero, List.set_cons_succ, i64_w, i32_w]
                    rfl
                  refine pure_ (i := 3) (N := some 45) (v := ?_) (a' := ?_) #[true, true, true, true, false, false, false, false, false, false, false, false, false, false, false, false, false] rfl rfl (by kernel_rfl) (fun _ _ _ h => h) (Or.inl ⟨by rfl, ?_⟩) ?_ ?_
                  rotate_left
                  · intro w'
                    go_simp
                    with_reducible rfl
                  rotate_left
                  · simp only [Act.put, List.setIfInBounds_toArray, List.set_cons_zero, List.set_cons_succ, i64_w, i32_w]
                    rfl
                  refine pure_ (i := 4) (N := some 46) (v := ?_) (a' := ?_) #[true, true, true, true, true, false, false, false, false, false, false, false, false, false, false, false, false] rfl rfl (by kernel_rfl) (fun _ _ _ h => h) (Or.inl ⟨by rfl, ?_⟩) ?_ ?_
                  rotate_left
                  · intro w'
                    go_simp
                    with_reducible rfl
                  rotate_left
                  · simp only [Act.put, List.setIfInBounds_toArray, List.set_cons_zero, List.set_cons_succ, i64_w, i32_w]
                    rfl
                  refine pure_ (i := 5) (N := some 47) (v := undef) (a' := ?_) #[true, true, true, true, true, true, false, false, false, false, false, false, false, false, false, false, false] rfl rfl (by kernel_rfl) (fun _ _ _ h => h) (Or.inr ⟨by rfl, rfl⟩) ?_ ?_
                  rotate_left
                  · simp only [Act.put, List.setIfInBounds_toArray, List.set_cons_zero, List.set_cons_succ, i64_w, i32_w]
                    rfl
                  refine pure_ (i := 6) (N := some 48) (v := undef) (a' := ?_) #[true, true, true, true, true, true, true, false, false, false, false, false, false, false, false, false, false] rfl rfl (by kernel_rfl) (fun _ _ _ h => h) (Or.inr ⟨by rfl, rfl⟩) ?_ ?_
                  rotate_left
                  · simp only [Act.put, List.setIfInBounds_toArray, List.set_cons_zero, List.set_cons_succ, i64_w, i32_w]
                    rfl
                  refine pure_ (i := 7) (N := some 49) (v := undef) (a' := ?_) #[true, true, true, true, true, true, true, true, false, false, false, false, false, false, false, false, false] rfl rfl (by kernel_rfl) (fun _ _ _ h => h) (Or.inr ⟨by rfl, rfl⟩) ?_ ?_
                  rotate_left
                  · simp only [Act.put, List.setIfInBounds_toArray, List.set_cons_zero, List.set_cons_succ, i64_w, i32_w]
                    rfl
                  refine pure_ (i := 8) (N := some 50) (v := undef) (a' := ?_) #[true, true, true, true, true, true, true, true, true, false, false, false, false, false, false, false, false] rfl rfl (by kernel_rfl) (fun _ _ _ h => h) (Or.inr ⟨by rfl, rfl⟩) ?_ ?_
                  rotate_left
                  · simp only [Act.put, List.setIfInBounds_toArray, List.set_cons_zero, List.set_cons_succ, i64_w, i32_w]
                    rfl
                  refine pure_ (i := 9) (N := some 51) (v := undef) (a' := ?_) #[true, true, true, true, true, true, true, true, true, true, false, false, false, false, false, false, false] rfl rfl (by kernel_rfl) (fun _ _ _ h => h) (Or.inr ⟨by rfl, rfl⟩) ?_ ?_
                  rotate_left
                  · simp only [Act.put, List.setIfInBounds_toArray, List.set_cons_zero, List.set_cons_succ, i64_w, i32_w]
                    rfl
                  refine pure_ (i := 10) (N := some 52) (v := undef) (a' := ?_) #[true, true, true, true, true, true, true, true, true, true, true, false, false, false, false, false, false] rfl rfl (by kernel_rfl) (fun _ _ _ h => h) (Or.inr ⟨by rfl, rfl⟩) ?_ ?_
                  rotate_left
                  · simp only [Act.put, List.setIfInBounds_toArray, List.set_cons_zero, List.set_cons_succ, i64_w, i32_w]
                    rfl
                  refine pure_ (i := 11) (N := some 53) (v := undef) (a' := ?_) #[true, true, true, true, true, true, true, true, true, true, true, true, false, false, false, false, false] rfl rfl (by kernel_rfl) (fun _ _ _ h => h) (Or.inr ⟨by rfl, rfl⟩) ?_ ?_
                  rotate_left
                  · simp only [Act.put, List.setIfInBounds_toArray, List.set_cons_zero, List.set_cons_succ, i64_w, i32_w]
                    rfl
                  refine pure_ (i := 12) (N := some 54) (v := undef) (a' := ?_) #[true, true, true, true, true, true, true, true, true, true, true, true, true, false, false, false, false] rfl rfl (by kernel_rfl) (fun _ _ _ h => h) (Or.inr ⟨by rfl, rfl⟩) ?_ ?_
                  rotate_left
                  · simp only [Act.put, List.setIfInBounds_toArray, List.set_cons_zero, List.set_cons_succ, i64_w, i32_w]
                    rfl
                  refine pure_ (i := 13) (N := some 55) (v := undef) (a' := ?_) #[true, true, true, true, true, true, true, true, true, true, true, true, true, true, false, false, false] rfl rfl (by kernel_rfl) (fun _ _ _ h => h) (Or.inr ⟨by rfl, rfl⟩) ?_ ?_
                  rotate_left
                  · simp only [Act.put, List.setIfInBounds_toArray, List.set_cons_zero, List.set_cons_succ, i64_w, i32_w]
                    rfl
                  refine pure_ (i := 14) (N := some 56) (v := undef) (a' := ?_) #[true, true, true, true, true, true, true, true, true, true, true, true, true, true, true, false, false] rfl rfl (by kernel_rfl) (fun _ _ _ h => h) (Or.inr ⟨by rfl, rfl⟩) ?_ ?_
                  rotate_left
                  · simp only [Act.put, List.setIfInBounds_toArray, List.set_cons_zero, List.set_cons_succ, i64_w, i32_w]
                    rfl
                  refine pure_ (i := 15) (N := some 57) (v := undef) (a' := ?_) #[true, true, true, true, true, true, true, true, true, true, true, true, true, true, true, true, false] rfl rfl (by kernel_rfl) (fun _ _ _ h => h) (Or.inr ⟨by rfl, rfl⟩) ?_ ?_
                  rotate_left
                  · simp only [Act.put, List.setIfInBounds_toArray, List.set_cons_zero, List.set_cons_succ, i64_w, i32_w]
                    rfl
                  refine pure_ (i := 16) (N := some 58) (v := ?_) (a' := ?_) #[true, true, true, true, true, true, true, true, true, true, true, true, true, true, true, true, true] rfl rfl (by kernel_rfl) (fun _ _ _ h => h) (Or.inl ⟨by rfl, ?_⟩) ?_ ?_
                  rotate_left
                  · intro w'
                    go_simp
                    with_reducible rfl
                  rotate_left
                  · simp only [Act.put, List.setIfInBounds_toArray, List.set_cons_zero, List.set_cons_succ, i64_w, i32_w]
                    rfl
                  refine done_ (by kernel_rfl) ?_
                  go_wp2
                  refine ⟨⟨best, x, _, cnt5, rfl, rfl, hHeld.2.2.2.2.1, inv_step hI2.out HAT.out rfl HL.out (Or.inr ⟨Or.inl (by rw [← HFZ.out]; exact Int.lt_of_not_ge cs), rfl⟩), hHeld.2.2.2.1, hHeld.2.2.2.2.2⟩, ?_⟩
                  rw [hHeld.2.2.2.2.1.left_eq, hrg.left_eq]
                  exact hlt5
              · have clb := str_ne cl
                obtain ⟨zl, hzl⟩ := hI2.out.l0 (ne_nil cl)
                have HZ_least := Aside0.mk hzl
                have hz9 : zOf least.data.toList = zl := by unfold zOf; rw [hzl]; rfl
                clear hzl
                have HZ9 := Aside0.mk hz9
                clear hz9
                go_wp2
                refine start_ (n := 11) (S := fun w' => w'.cell? ⟨gu, 0, none⟩ = some (.int .i64 a0_0) ∧ w'.cell? ⟨gu, 1, none⟩ = some (.int .i64 p2) ∧ w'.heap[gu]? = some (.cells #[.int .i64 a0_0, .int .i64 p2] 38 (0, 0)) ∧ w'.heap[gq]? = some (.cells #[.int .i64 a0_0, .int .i64 a0_1] 23 (0, 0)) ∧ w'.ranges Tryz.prog 9 two2 b w3.heap.size 15 (litMap enc2 tbl) (fun z => left z && !z.sameKey (.string x.data.toList)) cnt5 ∧ Below w.heap.size w w') (ds := []) #[false, false, false, false, false, false, false, false, false, false, false] (by kernel_rfl) rfl rfl ⟨(blk_cell (blk_drew HU.out) 0).trans rfl, (blk_cell (blk_drew HU.out) 1).trans rfl, blk_drew HU.out, blk_drew HQ.out, ranges_drew HR.out, below_drew1 HBW.out⟩ (fun hHeld => ?_)
                generalize w7.drew = Wd at hHeld ⊢
                refine pure_ (i := 0) (N := some 30) (v := ?_) (a' := ?_) #[true, false, false, false, false, false, false, false, false, false, false] rfl rfl (by kernel_rfl) (fun _ _ _ h => h) (Or.inl ⟨by rfl, ?_⟩) ?_ ?_
                rotate_left
                · intro w'
                  go_simp
                  with_reducible rfl
                rotate_left
                · simp only [Act.put, List.setIfInBounds_toArray, List.set_cons_zero, List.set_cons_succ, i64_w, i32_w]
                  rfl
                refine pure_ (i := 1) (N := some 31) (v := ?_) (a' := ?_) #[true, true, false, false, false, false, false, false, false, false, false] rfl rfl (by kernel_rfl) (fun _ _ _ h => h) (Or.inl ⟨by rfl, ?_⟩) ?_ ?_
                rotate_left
                · intro w'
                  go_simp
                  with_reducible rfl
                rotate_left
                · simp only [Act.put, List.setIfInBounds_toArray, List.set_cons_zero, List.set_cons_succ, i64_w, i32_w]
                  rfl
                refine pure_ (i := 2) (N := some 32) (v := ?_) (a' := ?_) #[true, true, true, false, false, false, false, false, false, false, false] rfl rfl (by kernel_rfl) (fun _ _ _ h => h) (Or.inl ⟨by rfl, ?_⟩) ?_ ?_
                rotate_left
                · intro w'
                  go_simp
                  with_reducible rfl
                rotate_left
                · simp only [Act.put, List.setIfInBounds_toArray, List.set_cons_zero, List.set_cons_succ, i64_w, i32_w]
                  rfl
                refine pure_ (i := 3) (N := some 33) (v := ?_) (a' := ?_) #[true, true, true, true, false, false, false, false, false, false, false] rfl rfl (by kernel_rfl) (fun _ _ _ h => h) (Or.inl ⟨by rfl, ?_⟩) ?_ ?_
                rotate_left
                · intro w'
                  go_simp
                  with_reducible rfl
                rotate_left
                · simp only [Act.put, List.setIfInBounds_toArray, List.set_cons_zero, List.set_cons_succ, i64_w, i32_w]
                  rfl
                refine pure_ (i := 6) (N := some 36) (v := ?_) (a' := ?_) #[true, true, true, true, false, false, true, false, false, false, false] rfl rfl (by kernel_rfl) (fun _ _ _ h => h) (Or.inl ⟨by rfl, ?_⟩) ?_ ?_
                rotate_left
                · intro w'
                  go_simp
                  with_reducible rfl
                rotate_left
                · simp only [Act.put, List.setIfInBounds_toArray, List.set_cons_zero, List.set_cons_succ, i64_w, i32_w]
                  rfl
                refine take_ (i := 4) (N := some 34) (v := ?_) (a' := ?_) #[true, true, true, true, true, false, true, false, false, false, false] rfl rfl (by kernel_rfl) (fun _ _ _ h => h) (Or.inl ⟨by rfl, ?_⟩) hHeld ?_ ?_
                rotate_left
                · rintro w' ⟨s0, s1, s2, s3, s4, s5⟩
                  go_simp
                  with_reducible rfl
                rotate_left
                · simp only [Act.put, List.setIfInBounds_toArray, List.set_cons_zero, List.set_cons_succ, i64_w, i32_w]
                  rfl
                refine one_ (i := 5) (N := some 35) #[true, true, true, true, true, true, true, false, false, false, false] rfl rfl (by kernel_rfl) (by decide) (fun K hK => ?_)
                refine goes_ Tryz.func13 (by kernel_rfl) rfl #[] (by rfl) rfl rfl (by first | rfl | (simp only [List.map_toArray, List.map_cons, List.map_nil]; done) | (simp only [List.map_toArray, List.map_cons, List.map_nil]; rfl)) ?_
                with_reducible refine (unit_units.calls _).mono ?_
                rintro e w8 ⟨b8, rfl, hm8, hb8, hle8⟩
                refine ⟨_, rfl, ?_⟩
                refine hK.out _ _ ⟨((hb8.cell (World.block_lt_of_cell? _ _ (hHeld.1))).trans (hHeld.1)), ((hb8.cell (World.block_lt_of_cell? _ _ (hHeld.2.1))).trans (hHeld.2.1)), box_stays (hHeld.2.2.1) hb8, box_stays (hHeld.2.2.2.1) hb8, ranges_below (hHeld.2.2.2.2.1) hb8, below_step (hHeld.2.2.2.2.2) hb8⟩ (fun hHeld => ?_)
                clear hK K
                refine norm_ (a' := ?_) ?_ ?_
                rotate_left
                · show Act.put _ (some 35) _ = _
                  simp only [Act.put, List.setIfInBounds_toArray, List.set_cons_zero, List.set_cons_succ, i64_w, i32_w]
                  rfl
                refine one_ (i := 7) (N := some 37) #[true, true, true, true, true, true, true, true, false, false, false] rfl rfl (by kernel_rfl) (by decide) (fun K hK => ?_)
                have hlk8 := look_at hm8 HZ_least.out
                refine value_ (w1 := ?_) (v := ?_) (by rfl) rfl ?_ ?_
                rotate_left 2
                · go_simp
                  constructor
                  · rfl
                  · rfl
                refine hK.out _ _ ⟨hHeld.1, hHeld.2.1, hHeld.2.2.1, hHeld.2.2.2.1, hHeld.2.2.2.2.1, hHeld.2.2.2.2.2⟩ (fun hHeld => ?_)
                clear hK K
                refine norm_ (a' := ?_) ?_ ?_
                rotate_left
                · show Act.put _ (some 37) _ = _
                  simp only [Act.put, List.setIfInBounds_toArray, List.set_cons_zero, List.set_cons_succ, i64_w, i32_w]
                  rfl
                refine pure_ (i := 8) (N := some 38) (v := ?_) (a' := ?_) #[true, true, true, true, true, true, true, true, true, false, false] rfl rfl (by kernel_rfl) (fun _ _ _ h => h) (Or.inl ⟨by rfl, ?_⟩) ?_ ?_
                rotate_left
                · intro w'
                  go_simp
                  with_reducible rfl
                rotate_left
                · simp only [Act.put, List.setIfInBounds_toArray, List.set_cons_zero, List.set_cons_succ, i64_w, i32_w]
                  rfl
                refine pure_ (i := 9) (N := some 39) (v := ?_) (a' := ?_) #[true, true, true, true, true, true, true, true, true, true, false] rfl rfl (by kernel_rfl) (fun _ _ _ h => h) (Or.inl ⟨by rfl, ?_⟩) ?_ ?_
                rotate_left
                · intro w'
                  go_simp
                  with_reducible rfl
                rotate_left
                · simp only [Act.put, List.setIfInBounds_toArray, List.set_cons_zero, List.set_cons_succ, i64_w, i32_w]
                  rfl
                refine pure_ (i := 10) (N := some 40) (v := ?_) (a' := ?_) #[true, true, true, true, true, true, true, true, true, true, true] rfl rfl (by kernel_rfl) (fun _ _ _ h => h) (Or.inl ⟨by rfl, ?_⟩) ?_ ?_
                rotate_left
                · intro w'
                  go_simp
                  with_reducible rfl
                rotate_left
                · simp only [Act.put, List.setIfInBounds_toArray, List.set_cons_zero, List.set_cons_succ, i64_w, i32_w]
                  rfl
                refine done_ (by kernel_rfl) ?_
                by_cases cz : p2 < zl
                · have czb : decide (p2 < zl) = true := decide_eq_true cz
                  go_wp2
                  have HL : Aside0 ((least.data.toList = [] ∨ p2 < zOf least.data.toList) ∧ x.data.toList = x.data.toList ∨ (least.data.toList ≠ [] ∧ zOf least.data.toList ≤ p2) ∧ x.data.toList = least.data.toList) := ⟨Or.inl ⟨Or.inr (by rw [HZ9.out]; exact cz), rfl⟩⟩
                  have HU2 := Aside0.mk hHeld.2.2.1
                  have HQ2 := Aside0.mk hHeld.2.2.2.1
                  have HR2 := Aside0.mk hHeld.2.2.2.2.1
                  have HBW2 := Aside0.mk hHeld.2.2.2.2.2
                  clear hHeld
                  obtain ⟨fz, hfz⟩ : ∃ fz : Int, fz = ((10 ^ p2.toNat : Nat) : Int) := ⟨_, rfl⟩
                  have HF : Aside0 (unit_unit_factor.f k a0_0 p2 = some fz) := ⟨by rw [hfz]; exact fact_at k a0_0 p2 hsm.2.1 hsm.2.2 hk.2⟩
                  have HFZ := Aside0.mk hfz
                  clear hfz
                  by_cases cs : fz ≤ sz
                  · have csb : decide (fz ≤ sz) = true := decide_eq_true cs
                    by_cases cb : best = ⟨#[]⟩
                    · subst cb
                      refine start_ (n := 17) (S := fun w' => w'.cell? ⟨gu, 0, none⟩ = some (.int .i64 a0_0) ∧ w'.cell? ⟨gu, 1, none⟩ = some (.int .i64 p2) ∧ w'.heap[gu]? = some (.cells #[.int .i64 a0_0, .int .i64 p2] 38 (0, 0)) ∧ w'.heap[gq]? = some (.cells #[.int .i64 a0_0, .int .i64 a0_1] 23 (0, 0)) ∧ w'.ranges Tryz.prog 9 two2 b w3.heap.size 15 (litMap enc2 tbl) (fun z => left z && !z.sameKey (.string x.data.toList)) cnt5 ∧ Below w.heap.size w w') (ds := []) #[false, false, false, false, false, false, false, false, false, false, false, false, false, false, false, false, false] (by kernel_rfl) rfl rfl ⟨(blk_cell (blk_drew HU2.out) 0).trans rfl, (blk_cell (blk_drew HU2.out) 1).trans rfl, blk_drew HU2.out, blk_drew HQ2.out, ranges_drew HR2.out, below_drew1 HBW2.out⟩ (fun hHeld => ?_)
                      generalize World.drew _ = We at hHeld ⊢
                      refine pure_ (i := 2) (N := some 44) (v := ?_) (a' := ?_) #[false, false, true, false, false, false, false, false, false, false, false, false, false, false, false, false, false] rfl rfl (by kernel_rfl) (fun _ _ _ h => h) (Or.inl ⟨by rfl, ?_⟩) ?_ ?_
                      rotate_left
                      · intro w'
                        go_simp
                        with_reducible rfl
                      rotate_left
                      · simp only [Act.put, List.setIfInBounds_toArray, List.set_cons_zero, List.set_cons_succ, i64_w, i32_w]
                        rfl
                      refine take_ (i := 0) (N := some 42) (v := ?_) (a' := ?_) #[true, false, true, false, false, false, false, false, false, false, false, false, false, false, false, false, false] rfl rfl (by kernel_rfl) (fun _ _ _ h => h) (Or.inl ⟨by rfl, ?_⟩) hHeld ?_ ?_
                      rotate_left
                      · rintro w' ⟨s0, s1, s2, s3, s4, s5⟩
                        go_simp
                        with_reducible rfl
                      rotate_left
                      · simp only [Act.put, List.setIfInBounds_toArray, List.set_cons_zero, List.set_cons_succ, i64_w, i32_w]
                        rfl
                      refine one_ (i := 1) (N := some 43) #[true, true, true, false, false, false, false, false, false, false, false, false, false, false, false, false, false] rfl rfl (by kernel_rfl) (by decide) (fun K hK => ?_)
                      refine goes_ Tryz.func28 (by kernel_rfl) rfl #[.agg #[.int .i64 a0_0, .int .i64 p2]] (by rfl) rfl rfl (by first | rfl | (simp only [List.map_toArray, List.map_cons, List.map_nil]; done) | (simp only [List.map_toArray, List.map_cons, List.map_nil]; rfl)) ?_
                      with_reducible refine (unit_unit_factor.calls k a0_0 p2 _ _ HF.out).mono ?_
                      rintro e w9 ⟨rfl, hb9⟩
                      refine ⟨_, rfl, ?_⟩
                      refine hK.out _ _ ⟨((hb9.cell (World.block_lt_of_cell? _ _ (hHeld.1))).trans (hHeld.1)), ((hb9.cell (World.block_lt_of_cell? _ _ (hHeld.2.1))).trans (hHeld.2.1)), box_stays (hHeld.2.2.1) hb9, box_stays (hHeld.2.2.2.1) hb9, ranges_below (hHeld.2.2.2.2.1) hb9, below_step (hHeld.2.2.2.2.2) hb9⟩ (fun hHeld => ?_)
                      clear hK K
                      refine norm_ (a' := ?_) ?_ ?_
                      rotate_left
                      · show Act.put _ (some 43) _ = _
                        simp only [Act.put, List.setIfInBounds_toArray, List.set_cons_zero, List.set_cons_succ, i64_w, i32_w]
                        rfl
                      refine pure_ (i := 3) (N := some 45) (v := ?_) (a' := ?_) #[true, true, true, true, false, false, false, false, false, false, false, false, false, false, false, false, false] rfl rfl (by kernel_rfl) (fun _ _ _ h => h) (Or.inl ⟨by rfl, ?_⟩) ?_ ?_
                      rotate_left
                      · intro w'
                        go_simp
                        with_reducible rfl
                      rotate_left
                      · simp only [Act.put, List.setIfInBounds_toArray, List.set_cons_zero, List.set_cons_succ, i64_w, i32_w]
                        rfl
                      refine pure_ (i := 4) (N := some 46) (v := ?_) (a' := ?_) #[true, true, true, true, true, false, false, false, false, false, false, false, false, false, false, false, false] rfl rfl (by kernel_rfl) (fun _ _ _ h => h) (Or.inl ⟨by rfl, ?_⟩) ?_ ?_
                      rotate_left
                      · intro w'
                        go_simp
                        with_reducible rfl
                      rotate_left
                      · simp only [Act.put, List.setIfInBounds_toArray, List.set_cons_zero, List.set_cons_succ, i64_w, i32_w]
                        rfl
                      refine pure_ (i := 5) (N := some 47) (v := ?_) (a' := ?_) #[true, true, true, true, true, true, false, false, false, false, false, false, false, false, false, false, false] rfl rfl (by kernel_rfl) (fun _ _ _ h => h) (Or.inl ⟨by rfl, ?_⟩) ?_ ?_
                      rotate_left
                      · intro w'
                        go_simp
                        with_reducible rfl
                      rotate_left
                      · simp only [Act.put, List.setIfInBounds_toArray, List.set_cons_zero, List.set_cons_succ, i64_w, i32_w]
                        rfl
                      refine pure_ (i := 6) (N := some 48) (v := ?_) (a' := ?_) #[true, true, true, true, true, true, true, false, false, false, false, false, false, false, false, false, false] rfl rfl (by kernel_rfl) (fun _ _ _ h => h) (Or.inl ⟨by rfl, ?_⟩) ?_ ?_
                      rotate_left
                      · intro w'
                        go_simp
                        with_reducible rfl
                      rotate_left
                      · simp only [Act.put, List.setIfInBounds_toArray, List.set_cons_zero, List.set_cons_succ, i64_w, i32_w]
                        rfl
                      refine pure_ (i := 7) (N := some 49) (v := ?_) (a' := ?_) #[true, true, true, true, true, true, true, true, false, false, false, false, false, false, false, false, false] rfl rfl (by kernel_rfl) (fun _ _ _ h => h) (Or.inl ⟨by rfl, ?_⟩) ?_ ?_
                      rotate_left
                      · intro w'
                        go_simp
                        with_reducible rfl
                      rotate_left
                      · simp only [Act.put, List.setIfInBounds_toArray, List.set_cons_zero, List.set_cons_succ, i64_w, i32_w]
                        rfl
                      refine pure_ (i := 8) (N := some 50) (v := undef) (a' := ?_) #[true, true, true, true, true, true, true, true, true, false, false, false, false, false, false, false, false] rfl rfl (by kernel_rfl) (fun _ _ _ h => h) (Or.inr ⟨by rfl, rfl⟩) ?_ ?_
                      rotate_left
                      · simp only [Act.put, List.setIfInBounds_toArray, List.set_cons_zero, List.set_cons_succ, i64_w, i32_w]
                        rfl
                      refine pure_ (i := 9) (N := some 51) (v := undef) (a' := ?_) #[true, true, true, true, true, true, true, true, true, true, false, false, false, false, false, false, false] rfl rfl (by kernel_rfl) (fun _ _ _ h => h) (Or.inr ⟨by rfl, rfl⟩) ?_ ?_
                      rotate_left
                      · simp only [Act.put, List.setIfInBounds_toArray, List.set_cons_zero, List.set_cons_succ, i64_w, i32_w]
                        rfl
                      refine pure_ (i := 10) (N := some 52) (v := undef) (a' := ?_) #[true, true, true, true, true, true, true, true, true, true, true, false, false, false, false, false, false] rfl rfl (by kernel_rfl) (fun _ _ _ h => h) (Or.inr ⟨by rfl, rfl⟩) ?_ ?_
                      rotate_left
                      · simp only [Act.put, List.setIfInBounds_toArray, List.set_cons_zero, List.set_cons_succ, i64_w, i32_w]
                        rfl
                      refine pure_ (i := 11) (N := some 53) (v := undef) (a' := ?_) #[true, true, true, true, true, true, true, true, true, true, true, true, false, false, false, false, false] rfl rfl (by kernel_rfl) (fun _ _ _ h => h) (Or.inr ⟨by rfl, rfl⟩) ?_ ?_
                      rotate_left
                      · simp only [Act.put, List.setIfInBounds_toArray, List.set_cons_zero, List.set_cons_succ, i64_w, i32_w]
                        rfl
                      refine pure_ (i := 12) (N := some 54) (v := undef) (a' := ?_) #[true, true, true, true, true, true, true, true, true, true, true, true, true, false, false, false, false] rfl rfl (by kernel_rfl) (fun _ _ _ h => h) (Or.inr ⟨by rfl, rfl⟩) ?_ ?_
                      rotate_left
                      · simp only [Act.put, List.setIfInBounds_toArray, List.set_cons_zero, List.set_cons_succ, i64_w, i32_w]
                        rfl
                      refine pure_ (i := 13) (N := some 55) (v := undef) (a' := ?_) #[true, true, true, true, true, true, true, true, true, true, true, true, true, true, false, false, false] rfl rfl (by kernel_rfl) (fun _ _ _ h => h) (Or.inr ⟨by rfl, rfl⟩) ?_ ?_
                      rotate_left
                      · simp only [Act.put, List.setIfInBounds_toArray, List.set_cons_zero, List.set_cons_succ, i64_w, i32_w]
                        rfl
                      refine pure_ (i := 14) (N := some 56) (v := undef) (a' := ?_) #[true, true, true, true, true, true, true, true, true, true, true, true, true, true, true, false, false] rfl rfl (by kernel_rfl) (fun _ _ _ h => h) (Or.inr ⟨by rfl, rfl⟩) ?_ ?_
                      rotate_left
                      · simp only [Act.put, List.setIfInBounds_toArray, List.set_cons_zero, List.set_cons_succ, i64_w, i32_w]
                        rfl
                      refine pure_ (i := 15) (N := some 57) (v := ?_) (a' := ?_) #[true, true, true, true, true, true, true, true, true, true, true, true, true, true, true, true, false] rfl rfl (by kernel_rfl) (fun _ _ _ h => h) (Or.inl ⟨by rfl, ?_⟩) ?_ ?_
                      rotate_left
                      · intro w'
                        go_simp
                        with_reducible rfl
                      rotate_left
                      · simp only [Act.put, List.setIfInBounds_toArray, List.set_cons_zero, List.set_cons_succ, i64_w, i32_w]
                        rfl
                      refine pure_ (i := 16) (N := some 58) (v := ?_) (a' := ?_) #[true, true, true, true, true, true, true, true, true, true, true, true, true, true, true, true, true] rfl rfl (by kernel_rfl) (fun _ _ _ h => h) (Or.inl ⟨by rfl, ?_⟩) ?_ ?_
                      rotate_left
                      · intro w'
                        go_simp
                        with_reducible rfl
                      rotate_left
                      · simp only [Act.put, List.setIfInBounds_toArray, List.set_cons_zero, List.set_cons_succ, i64_w, i32_w]
                        rfl
                      refine done_ (by kernel_rfl) ?_
                      go_wp2
                      refine ⟨⟨x, x, _, cnt5, rfl, rfl, hHeld.2.2.2.2.1, inv_step hI2.out HAT.out rfl HL.out (Or.inl ⟨⟨HFZ.out ▸ cs, Or.inl rfl⟩, rfl⟩), hHeld.2.2.2.1, hHeld.2.2.2.2.2⟩, ?_⟩
                      rw [hHeld.2.2.2.2.1.left_eq, hrg.left_eq]
                      exact hlt5
                    · have cbb := str_ne cb
                      obtain ⟨zb, hzb, _⟩ := hI2.out.b0 (ne_nil cb)
                      have HZ_best := Aside0.mk hzb
                      have hzb9 : zOf best.data.toList = zb := by unfold zOf; rw [hzb]; rfl
                      have HZB9 := Aside0.mk hzb9
                      clear hzb hzb9
                      refine start_ (n := 17) (S := fun w' => w'.cell? ⟨gu, 0, none⟩ = some (.int .i64 a0_0) ∧ w'.cell? ⟨gu, 1, none⟩ = some (.int .i64 p2) ∧ w'.heap[gu]? = some (.cells #[.int .i64 a0_0, .int .i64 p2] 38 (0, 0)) ∧ w'.heap[gq]? = some (.cells #[.int .i64 a0_0, .int .i64 a0_1] 23 (0, 0)) ∧ w'.ranges Tryz.prog 9 two2 b w3.heap.size 15 (litMap enc2 tbl) (fun z => left z && !z.sameKey (.string x.data.toList)) cnt5 ∧ Below w.heap.size w w') (ds := []) #[false, false, false, false, false, false, false, false, false, false, false, false, false, false, false, false, false] (by kernel_rfl) rfl rfl ⟨(blk_cell (blk_drew HU2.out) 0).trans rfl, (blk_cell (blk_drew HU2.out) 1).trans rfl, blk_drew HU2.out, blk_drew HQ2.out, ranges_drew HR2.out, below_drew1 HBW2.out⟩ (fun hHeld => ?_)
                      generalize World.drew _ = We at hHeld ⊢
                      refine pure_ (i := 2) (N := some 44) (v := ?_) (a' := ?_) #[false, false, true, false, false, false, false, false, false, false, false, false, false, false, false, false, false] rfl rfl (by kernel_rfl) (fun _ _ _ h => h) (Or.inl ⟨by rfl, ?_⟩) ?_ ?_
                      rotate_left
                      · intro w'
                        go_simp
                        with_reducible rfl
                      rotate_left
                      · simp only [Act.put, List.setIfInBounds_toArray, List.set_cons_zero, List.set_cons_succ, i64_w, i32_w]
                        rfl
                      refine take_ (i := 0) (N := some 42) (v := ?_) (a' := ?_) #[true, false, true, false, false, false, false, false, false, false, false, false, false, false, false, false, false] rfl rfl (by kernel_rfl) (fun _ _ _ h => h) (Or.inl ⟨by rfl, ?_⟩) hHeld ?_ ?_
                      rotate_left
                      · rintro w' ⟨s0, s1, s2, s3, s4, s5⟩
                        go_simp
                        with_reducible rfl
                      rotate_left
                      · simp only [Act.put, List.setIfInBounds_toArray, List.set_cons_zero, List.set_cons_succ, i64_w, i32_w]
                        rfl
                      refine one_ (i := 1) (N := some 43) #[true, true, true, false, false, false, false, false, false, false, false, false, false, false, false, false, false] rfl rfl (by kernel_rfl) (by decide) (fun K hK => ?_)
                      refine goes_ Tryz.func28 (by kernel_rfl) rfl #[.agg #[.int .i64 a0_0, .int .i64 p2]] (by rfl) rfl rfl (by first | rfl | (simp only [List.map_toArray, List.map_cons, List.map_nil]; done) | (simp only [List.map_toArray, List.map_cons, List.map_nil]; rfl)) ?_
                      with_reducible refine (unit_unit_factor.calls k a0_0 p2 _ _ HF.out).mono ?_
                      rintro e w9 ⟨rfl, hb9⟩
                      refine ⟨_, rfl, ?_⟩
                      refine hK.out _ _ ⟨((hb9.cell (World.block_lt_of_cell? _ _ (hHeld.1))).trans (hHeld.1)), ((hb9.cell (World.block_lt_of_cell? _ _ (hHeld.2.1))).trans (hHeld.2.1)), box_stays (hHeld.2.2.1) hb9, box_stays (hHeld.2.2.2.1) hb9, ranges_below (hHeld.2.2.2.2.1) hb9, below_step (hHeld.2.2.2.2.2) hb9⟩ (fun hHeld => ?_)
                      clear hK K
                      refine norm_ (a' := ?_) ?_ ?_
                      rotate_left
                      · show Act.put _ (some 43) _ = _
                        simp only [Act.put, List.setIfInBounds_toArray, List.set_cons_zero, List.set_cons_succ, i64_w, i32_w]
                        rfl
                      refine pure_ (i := 3) (N := some 45) (v := ?_) (a' := ?_) #[true, true, true, true, false, false, false, false, false, false, false, false, false, false, false, false, false] rfl rfl (by kernel_rfl) (fun _ _ _ h => h) (Or.inl ⟨by rfl, ?_⟩) ?_ ?_
                      rotate_left
                      · intro w'
                        go_simp
                        with_reducible rfl
                      rotate_left
                      · simp only [Act.put, List.setIfInBounds_toArray, List.set_cons_zero, List.set_cons_succ, i64_w, i32_w]
                        rfl
                      refine pure_ (i := 4) (N := some 46) (v := ?_) (a' := ?_) #[true, true, true, true, true, false, false, false, false, false, false, false, false, false, false, false, false] rfl rfl (by kernel_rfl) (fun _ _ _ h => h) (Or.inl ⟨by rfl, ?_⟩) ?_ ?_
                      rotate_left
                      · intro w'
                        go_simp
                        with_reducible rfl
                      rotate_left
                      · simp only [Act.put, List.setIfInBounds_toArray, List.set_cons_zero, List.set_cons_succ, i64_w, i32_w]
                        rfl
                      refine pure_ (i := 5) (N := some 47) (v := ?_) (a' := ?_) #[true, true, true, true, true, true, false, false, false, false, false, false, false, false, false, false, false] rfl rfl (by kernel_rfl) (fun _ _ _ h => h) (Or.inl ⟨by rfl, ?_⟩) ?_ ?_
                      rotate_left
                      · intro w'
                        go_simp
                        with_reducible rfl
                      rotate_left
                      · simp only [Act.put, List.setIfInBounds_toArray, List.set_cons_zero, List.set_cons_succ, i64_w, i32_w]
                        rfl
                      refine pure_ (i := 6) (N := some 48) (v := ?_) (a' := ?_) #[true, true, true, true, true, true, true, false, false, false, false, false, false, false, false, false, false] rfl rfl (by kernel_rfl) (fun _ _ _ h => h) (Or.inl ⟨by rfl, ?_⟩) ?_ ?_
                      rotate_left
                      · intro w'
                        go_simp
                        with_reducible rfl
                      rotate_left
                      · simp only [Act.put, List.setIfInBounds_toArray, List.set_cons_zero, List.set_cons_succ, i64_w, i32_w]
                        rfl
                      refine pure_ (i := 7) (N := some 49) (v := ?_) (a' := ?_) #[true, true, true, true, true, true, true, true, false, false, false, false, false, false, false, false, false] rfl rfl (by kernel_rfl) (fun _ _ _ h => h) (Or.inl ⟨by rfl, ?_⟩) ?_ ?_
                      rotate_left
                      · intro w'
                        go_simp
                        with_reducible rfl
                      rotate_left
                      · simp only [Act.put, List.setIfInBounds_toArray, List.set_cons_zero, List.set_cons_succ, i64_w, i32_w]
                        rfl
                      refine pure_ (i := 8) (N := some 50) (v := ?_) (a' := ?_) #[true, true, true, true, true, true, true, true, true, false, false, false, false, false, false, false, false] rfl rfl (by kernel_rfl) (fun _ _ _ h => h) (Or.inl ⟨by rfl, ?_⟩) ?_ ?_
                      rotate_left
                      · intro w'
                        go_simp
                        with_reducible rfl
                      rotate_left
                      · simp only [Act.put, List.setIfInBounds_toArray, List.set_cons_zero, List.set_cons_succ, i64_w, i32_w]
                        rfl
                      refine pure_ (i := 11) (N := some 53) (v := ?_) (a' := ?_) #[true, true, true, true, true, true, true, true, true, false, false, true, false, false, false, false, false] rfl rfl (by kernel_rfl) (fun _ _ _ h => h) (Or.inl ⟨by rfl, ?_⟩) ?_ ?_
                      rotate_left
                      · intro w'
                        go_simp
                        with_reducible rfl
                      rotate_left
                      · simp only [Act.put, List.setIfInBounds_toArray, List.set_cons_zero, List.set_cons_succ, i64_w, i32_w]
                        rfl
                      refine take_ (i := 9) (N := some 51) (v := ?_) (a' := ?_) #[true, true, true, true, true, true, true, true, true, true, false, true, false, false, false, false, false] rfl rfl (by kernel_rfl) (fun _ _ _ h => h) (Or.inl ⟨by rfl, ?_⟩) hHeld ?_ ?_
                      rotate_left
                      · rintro w' ⟨s0, s1, s2, s3, s4, s5⟩
                        go_simp
                        with_reducible rfl
                      rotate_left
                      · simp only [Act.put, List.setIfInBounds_toArray, List.set_cons_zero, List.set_cons_succ, i64_w, i32_w]
                        rfl
                      refine one_ (i := 10) (N := some 52) #[true, true, true, true, true, true, true, true, true, true, true, true, false, false, false, false, false] rfl rfl (by kernel_rfl) (by decide) (fun K hK => ?_)
                      refine goes_ Tryz.func13 (by kernel_rfl) rfl #[] (by rfl) rfl rfl (by first | rfl | (simp only [List.map_toArray, List.map_cons, List.map_nil]; done) | (simp only [List.map_toArray, List.map_cons, List.map_nil]; rfl)) ?_
                      with_reducible refine (unit_units.calls _).mono ?_
                      rintro e w10 ⟨b10, rfl, hm10, hb10, hle10⟩
                      refine ⟨_, rfl, ?_⟩
                      refine hK.out _ _ ⟨((hb10.cell (World.block_lt_of_cell? _ _ (hHeld.1))).trans (hHeld.1)), ((hb10.cell (World.block_lt_of_cell? _ _ (hHeld.2.1))).trans (hHeld.2.1)), box_stays (hHeld.2.2.1) hb10, box_stays (hHeld.2.2.2.1) hb10, ranges_below (hHeld.2.2.2.2.1) hb10, below_step (hHeld.2.2.2.2.2) hb10⟩ (fun hHeld => ?_)
                      clear hK K
                      refine norm_ (a' := ?_) ?_ ?_
                      rotate_left
                      · show Act.put _ (some 52) _ = _
                        simp only [Act.put, List.setIfInBounds_toArray, List.set_cons_zero, List.set_cons_succ, i64_w, i32_w]
                        rfl
                      refine one_ (i := 12) (N := some 54) #[true, true, true, true, true, true, true, true, true, true, true, true, true, false, false, false, false] rfl rfl (by kernel_rfl) (by decide) (fun K hK => ?_)
                      have hlk10 := look_at hm10 HZ_best.out
                      refine value_ (w1 := ?_) (v := ?_) (by rfl) rfl ?_ ?_
                      rotate_left 2
                      · go_simp
                        constructor
                        · rfl
                        · rfl
                      refine hK.out _ _ ⟨hHeld.1, hHeld.2.1, hHeld.2.2.1, hHeld.2.2.2.1, hHeld.2.2.2.2.1, hHeld.2.2.2.2.2⟩ (fun hHeld => ?_)
                      clear hK K
                      refine norm_ (a' := ?_) ?_ ?_
                      rotate_left
                      · show Act.put _ (some 54) _ = _
                        simp only [Act.put, List.setIfInBounds_toArray, List.set_cons_zero, List.set_cons_succ, i64_w, i32_w]
                        rfl
                      refine pure_ (i := 13) (N := some 55) (v := ?_) (a' := ?_) #[true, true, true, true, true, true, true, true, true, true, true, true, true, true, false, false, false] rfl rfl (by kernel_rfl) (fun _ _ _ h => h) (Or.inl ⟨by rfl, ?_⟩) ?_ ?_
                      rotate_left
                      · intro w'
                        go_simp
                        with_reducible rfl
                      rotate_left
                      · simp only [Act.put, List.setIfInBounds_toArray, List.set_cons_zero, List.set_cons_succ, i64_w, i32_w]
                        rfl
                      refine pure_ (i := 14) (N := some 56) (v := ?_) (a' := ?_) #[true, true, true, true, true, true, true, true, true, true, true, true, true, true, true, false, false] rfl rfl (by kernel_rfl) (fun _ _ _ h => h) (Or.inl ⟨by rfl, ?_⟩) ?_ ?_
                      rotate_left
                      · intro w'
                        go_simp
                        with_reducible rfl
                      rotate_left
                      · simp only [Act.put, List.setIfInBounds_toArray, List.set_cons_zero, List.set_cons_succ, i64_w, i32_w]
                        rfl
                      refine pure_ (i := 15) (N := some 57) (v := ?_) (a' := ?_) #[true, true, true, true, true, true, true, true, true, true, true, true, true, true, true, true, false] rfl rfl (by kernel_rfl) (fun _ _ _ h => h) (Or.inl ⟨by rfl, ?_⟩) ?_ ?_
                      rotate_left
                      · intro w'
                        go_simp
                        with_reducible rfl
                      rotate_left
                      · simp only [Act.put, List.setIfInBounds_toArray, List.set_cons_zero, List.set_cons_succ, i64_w, i32_w]
                        rfl
                      refine pure_ (i := 16) (N := some 58) (v := ?_) (a' := ?_) #[true, true, true, true, true, true, true, true, true, true, true, true, true, true, true, true, true] rfl rfl (by kernel_rfl) (fun _ _ _ h => h) (Or.inl ⟨by rfl, ?_⟩) ?_ ?_
                      rotate_left
                      · intro w'
                        go_simp
                        with_reducible rfl
                      rotate_left
                      · simp only [Act.put, List.setIfInBounds_toArray, List.set_cons_zero, List.set_cons_succ, i64_w, i32_w]
                        rfl
                      refine done_ (by kernel_rfl) ?_
                      by_cases cg : p2 > zb
                      · have cgb : decide (p2 > zb) = true := decide_eq_true cg
                        go_wp2
                        refine ⟨⟨x, x, _, cnt5, rfl, rfl, hHeld.2.2.2.2.1, inv_step hI2.out HAT.out rfl HL.out (Or.inl ⟨⟨HFZ.out ▸ cs, Or.inr (by rw [HZB9.out]; exact cg)⟩, rfl⟩), hHeld.2.2.2.1, hHeld.2.2.2.2.2⟩, ?_⟩
                        rw [hHeld.2.2.2.2.1.left_eq, hrg.left_eq]
                        exact hlt5
                      · have cgb : decide (p2 > zb) = false := decide_eq_false cg
                        go_wp2
                        refine ⟨⟨best, x, _, cnt5, rfl, rfl, hHeld.2.2.2.2.1, inv_step hI2.out HAT.out rfl HL.out (Or.inr ⟨Or.inr ⟨ne_nil cb, by rw [HZB9.out]; omega⟩, rfl⟩), hHeld.2.2.2.1, hHeld.2.2.2.2.2⟩, ?_⟩
                        rw [hHeld.2.2.2.2.1.left_eq, hrg.left_eq]
                        exact hlt5
                  · have csb : decide (fz ≤ sz) = false := decide_eq_false cs
                    refine start_ (n := 17) (S := fun w' => w'.cell? ⟨gu, 0, none⟩ = some (.int .i64 a0_0) ∧ w'.cell? ⟨gu, 1, none⟩ = some (.int .i64 p2) ∧ w'.heap[gu]? = some (.cells #[.int .i64 a0_0, .int .i64 p2] 38 (0, 0)) ∧ w'.heap[gq]? = some (.cells #[.int .i64 a0_0, .int .i64 a0_1] 23 (0, 0)) ∧ w'.ranges Tryz.prog 9 two2 b w3.heap.size 15 (litMap enc2 tbl) (fun z => left z && !z.sameKey (.string x.data.toList)) cnt5 ∧ Below w.heap.size w w') (ds := []) #[false, false, false, false, false, false, false, false, false, false, false, false, false, false, false, false, false] (by kernel_rfl) rfl rfl ⟨(blk_cell (blk_drew HU2.out) 0).trans rfl, (blk_cell (blk_drew HU2.out) 1).trans rfl, blk_drew HU2.out, blk_drew HQ2.out, ranges_drew HR2.out, below_drew1 HBW2.out⟩ (fun hHeld => ?_)
                    generalize World.drew _ = We at hHeld ⊢
                    refine pure_ (i := 2) (N := some 44) (v := ?_) (a' := ?_) #[false, false, true, false, false, false, false, false, false, false, false, false, false, false, false, false, false] rfl rfl (by kernel_rfl) (fun _ _ _ h => h) (Or.inl ⟨by rfl, ?_⟩) ?_ ?_
                    rotate_left
                    · intro w'
                      go_simp
                      with_reducible rfl
                    rotate_left
                    · simp only [Act.put, List.setIfInBounds_toArray, List.set_cons_zero, List.set_cons_succ, i64_w, i32_w]
                      rfl
                    refine take_ (i := 0) (N := some 42) (v := ?_) (a' := ?_) #[true, false, true, false, false, false, false, false, false, false, false, false, false, false, false, false, false] rfl rfl (by kernel_rfl) (fun _ _ _ h => h) (Or.inl ⟨by rfl, ?_⟩) hHeld ?_ ?_
                    rotate_left
                    · rintro w' ⟨s0, s1, s2, s3, s4, s5⟩
                      go_simp
                      with_reducible rfl
                    rotate_left
                    · simp only [Act.put, List.setIfInBounds_toArray, List.set_cons_zero, List.set_cons_succ, i64_w, i32_w]
                      rfl
                    refine one_ (i := 1) (N := some 43) #[true, true, true, false, false, false, false, false, false, false, false, false, false, false, false, false, false] rfl rfl (by kernel_rfl) (by decide) (fun K hK => ?_)
                    refine goes_ Tryz.func28 (by kernel_rfl) rfl #[.agg #[.int .i64 a0_0, .int .i64 p2]] (by rfl) rfl rfl (by first | rfl | (simp only [List.map_toArray, List.map_cons, List.map_nil]; done) | (simp only [List.map_toArray, List.map_cons, List.map_nil]; rfl)) ?_
                    with_reducible refine (unit_unit_factor.calls k a0_0 p2 _ _ HF.out).mono ?_
                    rintro e w9 ⟨rfl, hb9⟩
                    refine ⟨_, rfl, ?_⟩
                    refine hK.out _ _ ⟨((hb9.cell (World.block_lt_of_cell? _ _ (hHeld.1))).trans (hHeld.1)), ((hb9.cell (World.block_lt_of_cell? _ _ (hHeld.2.1))).trans (hHeld.2.1)), box_stays (hHeld.2.2.1) hb9, box_stays (hHeld.2.2.2.1) hb9, ranges_below (hHeld.2.2.2.2.1) hb9, below_step (hHeld.2.2.2.2.2) hb9⟩ (fun hHeld => ?_)
                    clear hK K
                    refine norm_ (a' := ?_) ?_ ?_
                    rotate_left
                    · show Act.put _ (some 43) _ = _
                      simp only [Act.put, List.setIfInBounds_toArray, List.set_cons_zero, List.set_cons_succ, i64_w, i32_w]
                      rfl
                    refine pure_ (i := 3) (N := some 45) (v := ?_) (a' := ?_) #[true, true, true, true, false, false, false, false, false, false, false, false, false, false, false, false, false] rfl rfl (by kernel_rfl) (fun _ _ _ h => h) (Or.inl ⟨by rfl, ?_⟩) ?_ ?_
                    rotate_left
                    · intro w'
                      go_simp
                      with_reducible rfl
                    rotate_left
                    · simp only [Act.put, List.setIfInBounds_toArray, List.set_cons_zero, List.set_cons_succ, i64_w, i32_w]
                      rfl
                    refine pure_ (i := 4) (N := some 46) (v := ?_) (a' := ?_) #[true, true, true, true, true, false, false, false, false, false, false, false, false, false, false, false, false] rfl rfl (by kernel_rfl) (fun _ _ _ h => h) (Or.inl ⟨by rfl, ?_⟩) ?_ ?_
                    rotate_left
                    · intro w'
                      go_simp
                      with_reducible rfl
                    rotate_left
                    · simp only [Act.put, List.setIfInBounds_toArray, List.set_cons_zero, List.set_cons_succ, i64_w, i32_w]
                      rfl
                    refine pure_ (i := 5) (N := some 47) (v := undef) (a' := ?_) #[true, true, true, true, true, true, false, false, false, false, false, false, false, false, false, false, false] rfl rfl (by kernel_rfl) (fun _ _ _ h => h) (Or.inr ⟨by rfl, rfl⟩) ?_ ?_
                    rotate_left
                    · simp only [Act.put, List.setIfInBounds_toArray, List.set_cons_zero, List.set_cons_succ, i64_w, i32_w]
                      rfl
                    refine pure_ (i := 6) (N := some 48) (v := undef) (a' := ?_) #[true, true, true, true, true, true, true, false, false, false, false, false, false, false, false, false, false] rfl rfl (by kernel_rfl) (fun _ _ _ h => h) (Or.inr ⟨by rfl, rfl⟩) ?_ ?_
                    rotate_left
                    · simp only [Act.put, List.setIfInBounds_toArray, List.set_cons_zero, List.set_cons_succ, i64_w, i32_w]
                      rfl
                    refine pure_ (i := 7) (N := some 49) (v := undef) (a' := ?_) #[true, true, true, true, true, true, true, true, false, false, false, false, false, false, false, false, false] rfl rfl (by kernel_rfl) (fun _ _ _ h => h) (Or.inr ⟨by rfl, rfl⟩) ?_ ?_
                    rotate_left
                    · simp only [Act.put, List.setIfInBounds_toArray, List.set_cons_zero, List.set_cons_succ, i64_w, i32_w]
                      rfl
                    refine pure_ (i := 8) (N := some 50) (v := undef) (a' := ?_) #[true, true, true, true, true, true, true, true, true, false, false, false, false, false, false, false, false] rfl rfl (by kernel_rfl) (fun _ _ _ h => h) (Or.inr ⟨by rfl, rfl⟩) ?_ ?_
                    rotate_left
                    · simp only [Act.put, List.setIfInBounds_toArray, List.set_cons_zero, List.set_cons_succ, i64_w, i32_w]
                      rfl
                    refine pure_ (i := 9) (N := some 51) (v := undef) (a' := ?_) #[true, true, true, true, true, true, true, true, true, true, false, false, false, false, false, false, false] rfl rfl (by kernel_rfl) (fun _ _ _ h => h) (Or.inr ⟨by rfl, rfl⟩) ?_ ?_
                    rotate_left
                    · simp only [Act.put, List.setIfInBounds_toArray, List.set_cons_zero, List.set_cons_succ, i64_w, i32_w]
                      rfl
                    refine pure_ (i := 10) (N := some 52) (v := undef) (a' := ?_) #[true, true, true, true, true, true, true, true, true, true, true, false, false, false, false, false, false] rfl rfl (by kernel_rfl) (fun _ _ _ h => h) (Or.inr ⟨by rfl, rfl⟩) ?_ ?_
                    rotate_left
                    · simp only [Act.put, List.setIfInBounds_toArray, List.set_cons_zero, List.set_cons_succ, i64_w, i32_w]
                      rfl
                    refine pure_ (i := 11) (N := some 53) (v := undef) (a' := ?_) #[true, true, true, true, true, true, true, true, true, true, true, true, false, false, false, false, false] rfl rfl (by kernel_rfl) (fun _ _ _ h => h) (Or.inr ⟨by rfl, rfl⟩) ?_ ?_
                    rotate_left
                    · simp only [Act.put, List.setIfInBounds_toArray, List.set_cons_zero, List.set_cons_succ, i64_w, i32_w]
                      rfl
                    refine pure_ (i := 12) (N := some 54) (v := undef) (a' := ?_) #[true, true, true, true, true, true, true, true, true, true, true, true, true, false, false, false, false] rfl rfl (by kernel_rfl) (fun _ _ _ h => h) (Or.inr ⟨by rfl, rfl⟩) ?_ ?_
                    rotate_left
                    · simp only [Act.put, List.setIfInBounds_toArray, List.set_cons_zero, List.set_cons_succ, i64_w, i32_w]
                      rfl
                    refine pure_ (i := 13) (N := some 55) (v := undef) (a' := ?_) #[true, true, true, true, true, true, true, true, true, true, true, true, true, true, false, false, false] rfl rfl (by kernel_rfl) (fun _ _ _ h => h) (Or.inr ⟨by rfl, rfl⟩) ?_ ?_
                    rotate_left
                    · simp only [Act.put, List.setIfInBounds_toArray, List.set_cons_zero, List.set_cons_succ, i64_w, i32_w]
                      rfl
                    refine pure_ (i := 14) (N := some 56) (v := undef) (a' := ?_) #[true, true, true, true, true, true, true, true, true, true, true, true, true, true, true, false, false] rfl rfl (by kernel_rfl) (fun _ _ _ h => h) (Or.inr ⟨by rfl, rfl⟩) ?_ ?_
                    rotate_left
                    · simp only [Act.put, List.setIfInBounds_toArray, List.set_cons_zero, List.set_cons_succ, i64_w, i32_w]
                      rfl
                    refine pure_ (i := 15) (N := some 57) (v := undef) (a' := ?_) #[true, true, true, true, true, true, true, true, true, true, true, true, true, true, true, true, false] rfl rfl (by kernel_rfl) (fun _ _ _ h => h) (Or.inr ⟨by rfl, rfl⟩) ?_ ?_
                    rotate_left
                    · simp only [Act.put, List.setIfInBounds_toArray, List.set_cons_zero, List.set_cons_succ, i64_w, i32_w]
                      rfl
                    refine pure_ (i := 16) (N := some 58) (v := ?_) (a' := ?_) #[true, true, true, true, true, true, true, true, true, true, true, true, true, true, true, true, true] rfl rfl (by kernel_rfl) (fun _ _ _ h => h) (Or.inl ⟨by rfl, ?_⟩) ?_ ?_
                    rotate_left
                    · intro w'
                      go_simp
                      with_reducible rfl
                    rotate_left
                    · simp only [Act.put, List.setIfInBounds_toArray, List.set_cons_zero, List.set_cons_succ, i64_w, i32_w]
                      rfl
                    refine done_ (by kernel_rfl) ?_
                    go_wp2
                    refine ⟨⟨best, x, _, cnt5, rfl, rfl, hHeld.2.2.2.2.1, inv_step hI2.out HAT.out rfl HL.out (Or.inr ⟨Or.inl (by rw [← HFZ.out]; exact Int.lt_of_not_ge cs), rfl⟩), hHeld.2.2.2.1, hHeld.2.2.2.2.2⟩, ?_⟩
                    rw [hHeld.2.2.2.2.1.left_eq, hrg.left_eq]
                    exact hlt5
                · have czb : decide (p2 < zl) = false := decide_eq_false cz
                  go_wp2
                  have HL : Aside0 ((least.data.toList = [] ∨ p2 < zOf least.data.toList) ∧ least.data.toList = x.data.toList ∨ (least.data.toList ≠ [] ∧ zOf least.data.toList ≤ p2) ∧ least.data.toList = least.data.toList) := ⟨Or.inr ⟨⟨ne_nil cl, by rw [HZ9.out]; omega⟩, rfl⟩⟩
                  have HU2 := Aside0.mk hHeld.2.2.1
                  have HQ2 := Aside0.mk hHeld.2.2.2.1
                  have HR2 := Aside0.mk hHeld.2.2.2.2.1
                  have HBW2 := Aside0.mk hHeld.2.2.2.2.2
                  clear hHeld
                  obtain ⟨fz, hfz⟩ : ∃ fz : Int, fz = ((10 ^ p2.toNat : Nat) : Int) := ⟨_, rfl⟩
                  have HF : Aside0 (unit_unit_factor.f k a0_0 p2 = some fz) := ⟨by rw [hfz]; exact fact_at k a0_0 p2 hsm.2.1 hsm.2.2 hk.2⟩
                  have HFZ := Aside0.mk hfz
                  clear hfz
                  by_cases cs : fz ≤ sz
                  · have csb : decide (fz ≤ sz) = true := decide_eq_true cs
                    by_cases cb : best = ⟨#[]⟩
                    · subst cb
                      refine start_ (n := 17) (S := fun w' => w'.cell? ⟨gu, 0, none⟩ = some (.int .i64 a0_0) ∧ w'.cell? ⟨gu, 1, none⟩ = some (.int .i64 p2) ∧ w'.heap[gu]? = some (.cells #[.int .i64 a0_0, .int .i64 p2] 38 (0, 0)) ∧ w'.heap[gq]? = some (.cells #[.int .i64 a0_0, .int .i64 a0_1] 23 (0, 0)) ∧ w'.ranges Tryz.prog 9 two2 b w3.heap.size 15 (litMap enc2 tbl) (fun z => left z && !z.sameKey (.string x.data.toList)) cnt5 ∧ Below w.heap.size w w') (ds := []) #[false, false, false, false, false, false, false, false, false, false, false, false, false, false, false, false, false] (by kernel_rfl) rfl rfl ⟨(blk_cell (blk_drew HU2.out) 0).trans rfl, (blk_cell (blk_drew HU2.out) 1).trans rfl, blk_drew HU2.out, blk_drew HQ2.out, ranges_drew HR2.out, below_drew1 HBW2.out⟩ (fun hHeld => ?_)
                      generalize World.drew _ = We at hHeld ⊢
                      refine pure_ (i := 2) (N := some 44) (v := ?_) (a' := ?_) #[false, false, true, false, false, false, false, false, false, false, false, false, false, false, false, false, false] rfl rfl (by kernel_rfl) (fun _ _ _ h => h) (Or.inl ⟨by rfl, ?_⟩) ?_ ?_
                      rotate_left
                      · intro w'
                        go_simp
                        with_reducible rfl
                      rotate_left
                      · simp only [Act.put, List.setIfInBounds_toArray, List.set_cons_zero, List.set_cons_succ, i64_w, i32_w]
                        rfl
                      refine take_ (i := 0) (N := some 42) (v := ?_) (a' := ?_) #[true, false, true, false, false, false, false, false, false, false, false, false, false, false, false, false, false] rfl rfl (by kernel_rfl) (fun _ _ _ h => h) (Or.inl ⟨by rfl, ?_⟩) hHeld ?_ ?_
                      rotate_left
                      · rintro w' ⟨s0, s1, s2, s3, s4, s5⟩
                        go_simp
                        with_reducible rfl
                      rotate_left
                      · simp only [Act.put, List.setIfInBounds_toArray, List.set_cons_zero, List.set_cons_succ, i64_w, i32_w]
                        rfl
                      refine one_ (i := 1) (N := some 43) #[true, true, true, false, false, false, false, false, false, false, false, false, false, false, false, false, false] rfl rfl (by kernel_rfl) (by decide) (fun K hK => ?_)
                      refine goes_ Tryz.func28 (by kernel_rfl) rfl #[.agg #[.int .i64 a0_0, .int .i64 p2]] (by rfl) rfl rfl (by first | rfl | (simp only [List.map_toArray, List.map_cons, List.map_nil]; done) | (simp only [List.map_toArray, List.map_cons, List.map_nil]; rfl)) ?_
                      with_reducible refine (unit_unit_factor.calls k a0_0 p2 _ _ HF.out).mono ?_
                      rintro e w9 ⟨rfl, hb9⟩
                      refine ⟨_, rfl, ?_⟩
                      refine hK.out _ _ ⟨((hb9.cell (World.block_lt_of_cell? _ _ (hHeld.1))).trans (hHeld.1)), ((hb9.cell (World.block_lt_of_cell? _ _ (hHeld.2.1))).trans (hHeld.2.1)), box_stays (hHeld.2.2.1) hb9, box_stays (hHeld.2.2.2.1) hb9, ranges_below (hHeld.2.2.2.2.1) hb9, below_step (hHeld.2.2.2.2.2) hb9⟩ (fun hHeld => ?_)
                      clear hK K
                      refine norm_ (a' := ?_) ?_ ?_
                      rotate_left
                      · show Act.put _ (some 43) _ = _
                        simp only [Act.put, List.setIfInBounds_toArray, List.set_cons_zero, List.set_cons_succ, i64_w, i32_w]
                        rfl
                      refine pure_ (i := 3) (N := some 45) (v := ?_) (a' := ?_) #[true, true, true, true, false, false, false, false, false, false, false, false, false, false, false, false, false] rfl rfl (by kernel_rfl) (fun _ _ _ h => h) (Or.inl ⟨by rfl, ?_⟩) ?_ ?_
                      rotate_left
                      · intro w'
                        go_simp
                        with_reducible rfl
                      rotate_left
                      · simp only [Act.put, List.setIfInBounds_toArray, List.set_cons_zero, List.set_cons_succ, i64_w, i32_w]
                        rfl
                      refine pure_ (i := 4) (N := some 46) (v := ?_) (a' := ?_) #[true, true, true, true, true, false, false, false, false, false, false, false, false, false, false, false, false] rfl rfl (by kernel_rfl) (fun _ _ _ h => h) (Or.inl ⟨by rfl, ?_⟩) ?_ ?_
                      rotate_left
                      · intro w'
                        go_simp
                        with_reducible rfl
                      rotate_left
                      · simp only [Act.put, List.setIfInBounds_toArray, List.set_cons_zero, List.set_cons_succ, i64_w, i32_w]
                        rfl
                      refine pure_ (i := 5) (N := some 47) (v := ?_) (a' := ?_) #[true, true, true, true, true, true, false, false, false, false, false, false, false, false, false, false, false] rfl rfl (by kernel_rfl) (fun _ _ _ h => h) (Or.inl ⟨by rfl, ?_⟩) ?_ ?_
                      rotate_left
                      · intro w'
                        go_simp
                        with_reducible rfl
                      rotate_left
                      · simp only [Act.put, List.setIfInBounds_toArray, List.set_cons_zero, List.set_cons_succ, i64_w, i32_w]
                        rfl
                      refine pure_ (i := 6) (N := some 48) (v := ?_) (a' := ?_) #[true, true, true, true, true, true, true, false, false, false, false, false, false, false, false, false, false] rfl rfl (by kernel_rfl) (fun _ _ _ h => h) (Or.inl ⟨by rfl, ?_⟩) ?_ ?_
                      rotate_left
                      · intro w'
                        go_simp
                        with_reducible rfl
                      rotate_left
                      · simp only [Act.put, List.setIfInBounds_toArray, List.set_cons_zero, List.set_cons_succ, i64_w, i32_w]
                        rfl
                      refine pure_ (i := 7) (N := some 49) (v := ?_) (a' := ?_) #[true, true, true, true, true, true, true, true, false, false, false, false, false, false, false, false, false] rfl rfl (by kernel_rfl) (fun _ _ _ h => h) (Or.inl ⟨by rfl, ?_⟩) ?_ ?_
                      rotate_left
                      · intro w'
                        go_simp
                        with_reducible rfl
                      rotate_left
                      · simp only [Act.put, List.setIfInBounds_toArray, List.set_cons_zero, List.set_cons_succ, i64_w, i32_w]
                        rfl
                      refine pure_ (i := 8) (N := some 50) (v := undef) (a' := ?_) #[true, true, true, true, true, true, true, true, true, false, false, false, false, false, false, false, false] rfl rfl (by kernel_rfl) (fun _ _ _ h => h) (Or.inr ⟨by rfl, rfl⟩) ?_ ?_
                      rotate_left
                      · simp only [Act.put, List.setIfInBounds_toArray, List.set_cons_zero, List.set_cons_succ, i64_w, i32_w]
                        rfl
                      refine pure_ (i := 9) (N := some 51) (v := undef) (a' := ?_) #[true, true, true, true, true, true, true, true, true, true, false, false, false, false, false, false, false] rfl rfl (by kernel_rfl) (fun _ _ _ h => h) (Or.inr ⟨by rfl, rfl⟩) ?_ ?_
                      rotate_left
                      · simp only [Act.put, List.setIfInBounds_toArray, List.set_cons_zero, List.set_cons_succ, i64_w, i32_w]
                        rfl
                      refine pure_ (i := 10) (N := some 52) (v := undef) (a' := ?_) #[true, true, true, true, true, true, true, true, true, true, true, false, false, false, false, false, false] rfl rfl (by kernel_rfl) (fun _ _ _ h => h) (Or.inr ⟨by rfl, rfl⟩) ?_ ?_
                      rotate_left
                      · simp only [Act.put, List.setIfInBounds_toArray, List.set_cons_zero, List.set_cons_succ, i64_w, i32_w]
                        rfl
                      refine pure_ (i := 11) (N := some 53) (v := undef) (a' := ?_) #[true, true, true, true, true, true, true, true, true, true, true, true, false, false, false, false, false] rfl rfl (by kernel_rfl) (fun _ _ _ h => h) (Or.inr ⟨by rfl, rfl⟩) ?_ ?_
                      rotate_left
                      · simp only [Act.put, List.setIfInBounds_toArray, List.set_cons_zero, List.set_cons_succ, i64_w, i32_w]
                        rfl
                      refine pure_ (i := 12) (N := some 54) (v := undef) (a' := ?_) #[true, true, true, true, true, true, true, true, true, true, true, true, true, false, false, false, false] rfl rfl (by kernel_rfl) (fun _ _ _ h => h) (Or.inr ⟨by rfl, rfl⟩) ?_ ?_
                      rotate_left
                      · simp only [Act.put, List.setIfInBounds_toArray, List.set_cons_zero, List.set_cons_succ, i64_w, i32_w]
                        rfl
                      refine pure_ (i := 13) (N := some 55) (v := undef) (a' := ?_) #[true, true, true, true, true, true, true, true, true, true, true, true, true, true, false, false, false] rfl rfl (by kernel_rfl) (fun _ _ _ h => h) (Or.inr ⟨by rfl, rfl⟩) ?_ ?_
                      rotate_left
                      · simp only [Act.put, List.setIfInBounds_toArray, List.set_cons_zero, List.set_cons_succ, i64_w, i32_w]
                        rfl
                      refine pure_ (i := 14) (N := some 56) (v := undef) (a' := ?_) #[true, true, true, true, true, true, true, true, true, true, true, true, true, true, true, false, false] rfl rfl (by kernel_rfl) (fun _ _ _ h => h) (Or.inr ⟨by rfl, rfl⟩) ?_ ?_
                      rotate_left
                      · simp only [Act.put, List.setIfInBounds_toArray, List.set_cons_zero, List.set_cons_succ, i64_w, i32_w]
                        rfl
                      refine pure_ (i := 15) (N := some 57) (v := ?_) (a' := ?_) #[true, true, true, true, true, true, true, true, true, true, true, true, true, true, true, true, false] rfl rfl (by kernel_rfl) (fun _ _ _ h => h) (Or.inl ⟨by rfl, ?_⟩) ?_ ?_
                      rotate_left
                      · intro w'
                        go_simp
                        with_reducible rfl
                      rotate_left
                      · simp only [Act.put, List.setIfInBounds_toArray, List.set_cons_zero, List.set_cons_succ, i64_w, i32_w]
                        rfl
                      refine pure_ (i := 16) (N := some 58) (v := ?_) (a' := ?_) #[true, true, true, true, true, true, true, true, true, true, true, true, true, true, true, true, true] rfl rfl (by kernel_rfl) (fun _ _ _ h => h) (Or.inl ⟨by rfl, ?_⟩) ?_ ?_
                      rotate_left
                      · intro w'
                        go_simp
                        with_reducible rfl
                      rotate_left
                      · simp only [Act.put, List.setIfInBounds_toArray, List.set_cons_zero, List.set_cons_succ, i64_w, i32_w]
                        rfl
                      refine done_ (by kernel_rfl) ?_
                      go_wp2
                      refine ⟨⟨x, least, _, cnt5, rfl, rfl, hHeld.2.2.2.2.1, inv_step hI2.out HAT.out rfl HL.out (Or.inl ⟨⟨HFZ.out ▸ cs, Or.inl rfl⟩, rfl⟩), hHeld.2.2.2.1, hHeld.2.2.2.2.2⟩, ?_⟩
                      rw [hHeld.2.2.2.2.1.left_eq, hrg.left_eq]
                      exact hlt5
                    · have cbb := str_ne cb
                      obtain ⟨zb, hzb, _⟩ := hI2.out.b0 (ne_nil cb)
                      have HZ_best := Aside0.mk hzb
                      have hzb9 : zOf best.data.toList = zb := by unfold zOf; rw [hzb]; rfl
                      have HZB9 := Aside0.mk hzb9
                      clear hzb hzb9
                      refine start_ (n := 17) (S := fun w' => w'.cell? ⟨gu, 0, none⟩ = some (.int .i64 a0_0) ∧ w'.cell? ⟨gu, 1, none⟩ = some (.int .i64 p2) ∧ w'.heap[gu]? = some (.cells #[.int .i64 a0_0, .int .i64 p2] 38 (0, 0)) ∧ w'.heap[gq]? = some (.cells #[.int .i64 a0_0, .int .i64 a0_1] 23 (0, 0)) ∧ w'.ranges Tryz.prog 9 two2 b w3.heap.size 15 (litMap enc2 tbl) (fun z => left z && !z.sameKey (.string x.data.toList)) cnt5 ∧ Below w.heap.size w w') (ds := []) #[false, false, false, false, false, false, false, false, false, false, false, false, false, false, false, false, false] (by kernel_rfl) rfl rfl ⟨(blk_cell (blk_drew HU2.out) 0).trans rfl, (blk_cell (blk_drew HU2.out) 1).trans rfl, blk_drew HU2.out, blk_drew HQ2.out, ranges_drew HR2.out, below_drew1 HBW2.out⟩ (fun hHeld => ?_)
                      generalize World.drew _ = We at hHeld ⊢
                      refine pure_ (i := 2) (N := some 44) (v := ?_) (a' := ?_) #[false, false, true, false, false, false, false, false, false, false, false, false, false, false, false, false, false] rfl rfl (by kernel_rfl) (fun _ _ _ h => h) (Or.inl ⟨by rfl, ?_⟩) ?_ ?_
                      rotate_left
                      · intro w'
                        go_simp
                        with_reducible rfl
                      rotate_left
                      · simp only [Act.put, List.setIfInBounds_toArray, List.set_cons_zero, List.set_cons_succ, i64_w, i32_w]
                        rfl
                      refine take_ (i := 0) (N := some 42) (v := ?_) (a' := ?_) #[true, false, true, false, false, false, false, false, false, false, false, false, false, false, false, false, false] rfl rfl (by kernel_rfl) (fun _ _ _ h => h) (Or.inl ⟨by rfl, ?_⟩) hHeld ?_ ?_
                      rotate_left
                      · rintro w' ⟨s0, s1, s2, s3, s4, s5⟩
                        go_simp
                        with_reducible rfl
                      rotate_left
                      · simp only [Act.put, List.setIfInBounds_toArray, List.set_cons_zero, List.set_cons_succ, i64_w, i32_w]
                        rfl
                      refine one_ (i := 1) (N := some 43) #[true, true, true, false, false, false, false, false, false, false, false, false, false, false, false, false, false] rfl rfl (by kernel_rfl) (by decide) (fun K hK => ?_)
                      refine goes_ Tryz.func28 (by kernel_rfl) rfl #[.agg #[.int .i64 a0_0, .int .i64 p2]] (by rfl) rfl rfl (by first | rfl | (simp only [List.map_toArray, List.map_cons, List.map_nil]; done) | (simp only [List.map_toArray, List.map_cons, List.map_nil]; rfl)) ?_
                      with_reducible refine (unit_unit_factor.calls k a0_0 p2 _ _ HF.out).mono ?_
                      rintro e w9 ⟨rfl, hb9⟩
                      refine ⟨_, rfl, ?_⟩
                      refine hK.out _ _ ⟨((hb9.cell (World.block_lt_of_cell? _ _ (hHeld.1))).trans (hHeld.1)), ((hb9.cell (World.block_lt_of_cell? _ _ (hHeld.2.1))).trans (hHeld.2.1)), box_stays (hHeld.2.2.1) hb9, box_stays (hHeld.2.2.2.1) hb9, ranges_below (hHeld.2.2.2.2.1) hb9, below_step (hHeld.2.2.2.2.2) hb9⟩ (fun hHeld => ?_)
                      clear hK K
                      refine norm_ (a' := ?_) ?_ ?_
                      rotate_left
                      · show Act.put _ (some 43) _ = _
                        simp only [Act.put, List.setIfInBounds_toArray, List.set_cons_zero, List.set_cons_succ, i64_w, i32_w]
                        rfl
                      refine pure_ (i := 3) (N := some 45) (v := ?_) (a' := ?_) #[true, true, true, true, false, false, false, false, false, false, false, false, false, false, false, false, false] rfl rfl (by kernel_rfl) (fun _ _ _ h => h) (Or.inl ⟨by rfl, ?_⟩) ?_ ?_
                      rotate_left
                      · intro w'
                        go_simp
                        with_reducible rfl
                      rotate_left
                      · simp only [Act.put, List.setIfInBounds_toArray, List.set_cons_zero, List.set_cons_succ, i64_w, i32_w]
                        rfl
                      refine pure_ (i := 4) (N := some 46) (v := ?_) (a' := ?_) #[true, true, true, true, true, false, false, false, false, false, false, false, false, false, false, false, false] rfl rfl (by kernel_rfl) (fun _ _ _ h => h) (Or.inl ⟨by rfl, ?_⟩) ?_ ?_
                      rotate_left
                      · intro w'
                        go_simp
                        with_reducible rfl
                      rotate_left
                      · simp only [Act.put, List.setIfInBounds_toArray, List.set_cons_zero, List.set_cons_succ, i64_w, i32_w]
                        rfl
                      refine pure_ (i := 5) (N := some 47) (v := ?_) (a' := ?_) #[true, true, true, true, true, true, false, false, false, false, false, false, false, false, false, false, false] rfl rfl (by kernel_rfl) (fun _ _ _ h => h) (Or.inl ⟨by rfl, ?_⟩) ?_ ?_
                      rotate_left
                      · intro w'
                        go_simp
                        with_reducible rfl
                      rotate_left
                      · simp only [Act.put, List.setIfInBounds_toArray, List.set_cons_zero, List.set_cons_succ, i64_w, i32_w]
                        rfl
                      refine pure_ (i := 6) (N := some 48) (v := ?_) (a' := ?_) #[true, true, true, true, true, true, true, false, false, false, false, false, false, false, false, false, false] rfl rfl (by kernel_rfl) (fun _ _ _ h => h) (Or.inl ⟨by rfl, ?_⟩) ?_ ?_
                      rotate_left
                      · intro w'
                        go_simp
                        with_reducible rfl
                      rotate_left
                      · simp only [Act.put, List.setIfInBounds_toArray, List.set_cons_zero, List.set_cons_succ, i64_w, i32_w]
                        rfl
                      refine pure_ (i := 7) (N := some 49) (v := ?_) (a' := ?_) #[true, true, true, true, true, true, true, true, false, false, false, false, false, false, false, false, false] rfl rfl (by kernel_rfl) (fun _ _ _ h => h) (Or.inl ⟨by rfl, ?_⟩) ?_ ?_
                      rotate_left
                      · intro w'
                        go_simp
                        with_reducible rfl
                      rotate_left
                      · simp only [Act.put, List.setIfInBounds_toArray, List.set_cons_zero, List.set_cons_succ, i64_w, i32_w]
                        rfl
                      refine pure_ (i := 8) (N := some 50) (v := ?_) (a' := ?_) #[true, true, true, true, true, true, true, true, true, false, false, false, false, false, false, false, false] rfl rfl (by kernel_rfl) (fun _ _ _ h => h) (Or.inl ⟨by rfl, ?_⟩) ?_ ?_
                      rotate_left
                      · intro w'
                        go_simp
                        with_reducible rfl
                      rotate_left
                      · simp only [Act.put, List.setIfInBounds_toArray, List.set_cons_zero, List.set_cons_succ, i64_w, i32_w]
                        rfl
                      refine pure_ (i := 11) (N := some 53) (v := ?_) (a' := ?_) #[true, true, true, true, true, true, true, true, true, false, false, true, false, false, false, false, false] rfl rfl (by kernel_rfl) (fun _ _ _ h => h) (Or.inl ⟨by rfl, ?_⟩) ?_ ?_
                      rotate_left
                      · intro w'
                        go_simp
                        with_reducible rfl
                      rotate_left
                      · simp only [Act.put, List.setIfInBounds_toArray, List.set_cons_zero, List.set_cons_succ, i64_w, i32_w]
                        rfl
                      refine take_ (i := 9) (N := some 51) (v := ?_) (a' := ?_) #[true, true, true, true, true, true, true, true, true, true, false, true, false, false, false, false, false] rfl rfl (by kernel_rfl) (fun _ _ _ h => h) (Or.inl ⟨by rfl, ?_⟩) hHeld ?_ ?_
                      rotate_left
                      · rintro w' ⟨s0, s1, s2, s3, s4, s5⟩
                        go_simp
                        with_reducible rfl
                      rotate_left
                      · simp only [Act.put, List.setIfInBounds_toArray, List.set_cons_zero, List.set_cons_succ, i64_w, i32_w]
                        rfl
                      refine one_ (i := 10) (N := some 52) #[true, true, true, true, true, true, true, true, true, true, true, true, false, false, false, false, false] rfl rfl (by kernel_rfl) (by decide) (fun K hK => ?_)
                      refine goes_ Tryz.func13 (by kernel_rfl) rfl #[] (by rfl) rfl rfl (by first | rfl | (simp only [List.map_toArray, List.map_cons, List.map_nil]; done) | (simp only [List.map_toArray, List.map_cons, List.map_nil]; rfl)) ?_
                      with_reducible refine (unit_units.calls _).mono ?_
                      rintro e w10 ⟨b10, rfl, hm10, hb10, hle10⟩
                      refine ⟨_, rfl, ?_⟩
                      refine hK.out _ _ ⟨((hb10.cell (World.block_lt_of_cell? _ _ (hHeld.1))).trans (hHeld.1)), ((hb10.cell (World.block_lt_of_cell? _ _ (hHeld.2.1))).trans (hHeld.2.1)), box_stays (hHeld.2.2.1) hb10, box_stays (hHeld.2.2.2.1) hb10, ranges_below (hHeld.2.2.2.2.1) hb10, below_step (hHeld.2.2.2.2.2) hb10⟩ (fun hHeld => ?_)
                      clear hK K
                      refine norm_ (a' := ?_) ?_ ?_
                      rotate_left
                      · show Act.put _ (some 52) _ = _
                        simp only [Act.put, List.setIfInBounds_toArray, List.set_cons_zero, List.set_cons_succ, i64_w, i32_w]
                        rfl
                      refine one_ (i := 12) (N := some 54) #[true, true, true, true, true, true, true, true, true, true, true, true, true, false, false, false, false] rfl rfl (by kernel_rfl) (by decide) (fun K hK => ?_)
                      have hlk10 := look_at hm10 HZ_best.out
                      refine value_ (w1 := ?_) (v := ?_) (by rfl) rfl ?_ ?_
                      rotate_left 2
                      · go_simp
                        constructor
                        · rfl
                        · rfl
                      refine hK.out _ _ ⟨hHeld.1, hHeld.2.1, hHeld.2.2.1, hHeld.2.2.2.1, hHeld.2.2.2.2.1, hHeld.2.2.2.2.2⟩ (fun hHeld => ?_)
                      clear hK K
                      refine norm_ (a' := ?_) ?_ ?_
                      rotate_left
                      · show Act.put _ (some 54) _ = _
                        simp only [Act.put, List.setIfInBounds_toArray, List.set_cons_zero, List.set_cons_succ, i64_w, i32_w]
                        rfl
                      refine pure_ (i := 13) (N := some 55) (v := ?_) (a' := ?_) #[true, true, true, true, true, true, true, true, true, true, true, true, true, true, false, false, false] rfl rfl (by kernel_rfl) (fun _ _ _ h => h) (Or.inl ⟨by rfl, ?_⟩) ?_ ?_
                      rotate_left
                      · intro w'
                        go_simp
                        with_reducible rfl
                      rotate_left
                      · simp only [Act.put, List.setIfInBounds_toArray, List.set_cons_zero, List.set_cons_succ, i64_w, i32_w]
                        rfl
                      refine pure_ (i := 14) (N := some 56) (v := ?_) (a' := ?_) #[true, true, true, true, true, true, true, true, true, true, true, true, true, true, true, false, false] rfl rfl (by kernel_rfl) (fun _ _ _ h => h) (Or.inl ⟨by rfl, ?_⟩) ?_ ?_
                      rotate_left
                      · intro w'
                        go_simp
                        with_reducible rfl
                      rotate_left
                      · simp only [Act.put, List.setIfInBounds_toArray, List.set_cons_zero, List.set_cons_succ, i64_w, i32_w]
                        rfl
                      refine pure_ (i := 15) (N := some 57) (v := ?_) (a' := ?_) #[true, true, true, true, true, true, true, true, true, true, true, true, true, true, true, true, false] rfl rfl (by kernel_rfl) (fun _ _ _ h => h) (Or.inl ⟨by rfl, ?_⟩) ?_ ?_
                      rotate_left
                      · intro w'
                        go_simp
                        with_reducible rfl
                      rotate_left
                      · simp only [Act.put, List.setIfInBounds_toArray, List.set_cons_zero, List.set_cons_succ, i64_w, i32_w]
                        rfl
                      refine pure_ (i := 16) (N := some 58) (v := ?_) (a' := ?_) #[true, true, true, true, true, true, true, true, true, true, true, true, true, true, true, true, true] rfl rfl (by kernel_rfl) (fun _ _ _ h => h) (Or.inl ⟨by rfl, ?_⟩) ?_ ?_
                      rotate_left
                      · intro w'
                        go_simp
                        with_reducible rfl
                      rotate_left
                      · simp only [Act.put, List.setIfInBounds_toArray, List.set_cons_zero, List.set_cons_succ, i64_w, i32_w]
                        rfl
                      refine done_ (by kernel_rfl) ?_
                      by_cases cg : p2 > zb
                      · have cgb : decide (p2 > zb) = true := decide_eq_true cg
                        go_wp2
                        refine ⟨⟨x, least, _, cnt5, rfl, rfl, hHeld.2.2.2.2.1, inv_step hI2.out HAT.out rfl HL.out (Or.inl ⟨⟨HFZ.out ▸ cs, Or.inr (by rw [HZB9.out]; exact cg)⟩, rfl⟩), hHeld.2.2.2.1, hHeld.2.2.2.2.2⟩, ?_⟩
                        rw [hHeld.2.2.2.2.1.left_eq, hrg.left_eq]
                        exact hlt5
                      · have cgb : decide (p2 > zb) = false := decide_eq_false cg
                        go_wp2
                        refine ⟨⟨best, least, _, cnt5, rfl, rfl, hHeld.2.2.2.2.1, inv_step hI2.out HAT.out rfl HL.out (Or.inr ⟨Or.inr ⟨ne_nil cb, by rw [HZB9.out]; omega⟩, rfl⟩), hHeld.2.2.2.1, hHeld.2.2.2.2.2⟩, ?_⟩
                        rw [hHeld.2.2.2.2.1.left_eq, hrg.left_eq]
                        exact hlt5
                  · have csb : decide (fz ≤ sz) = false := decide_eq_false cs
                    refine start_ (n := 17) (S := fun w' => w'.cell? ⟨gu, 0, none⟩ = some (.int .i64 a0_0) ∧ w'.cell? ⟨gu, 1, none⟩ = some (.int .i64 p2) ∧ w'.heap[gu]? = some (.cells #[.int .i64 a0_0, .int .i64 p2] 38 (0, 0)) ∧ w'.heap[gq]? = some (.cells #[.int .i64 a0_0, .int .i64 a0_1] 23 (0, 0)) ∧ w'.ranges Tryz.prog 9 two2 b w3.heap.size 15 (litMap enc2 tbl) (fun z => left z && !z.sameKey (.string x.data.toList)) cnt5 ∧ Below w.heap.size w w') (ds := []) #[false, false, false, false, false, false, false, false, false, false, false, false, false, false, false, false, false] (by kernel_rfl) rfl rfl ⟨(blk_cell (blk_drew HU2.out) 0).trans rfl, (blk_cell (blk_drew HU2.out) 1).trans rfl, blk_drew HU2.out, blk_drew HQ2.out, ranges_drew HR2.out, below_drew1 HBW2.out⟩ (fun hHeld => ?_)
                    generalize World.drew _ = We at hHeld ⊢
                    refine pure_ (i := 2) (N := some 44) (v := ?_) (a' := ?_) #[false, false, true, false, false, false, false, false, false, false, false, false, false, false, false, false, false] rfl rfl (by kernel_rfl) (fun _ _ _ h => h) (Or.inl ⟨by rfl, ?_⟩) ?_ ?_
                    rotate_left
                    · intro w'
                      go_simp
                      with_reducible rfl
                    rotate_left
                    · simp only [Act.put, List.setIfInBounds_toArray, List.set_cons_zero, List.set_cons_succ, i64_w, i32_w]
                      rfl
                    refine take_ (i := 0) (N := some 42) (v := ?_) (a' := ?_) #[true, false, true, false, false, false, false, false, false, false, false, false, false, false, false, false, false] rfl rfl (by kernel_rfl) (fun _ _ _ h => h) (Or.inl ⟨by rfl, ?_⟩) hHeld ?_ ?_
                    rotate_left
                    · rintro w' ⟨s0, s1, s2, s3, s4, s5⟩
                      go_simp
                      with_reducible rfl
                    rotate_left
                    · simp only [Act.put, List.setIfInBounds_toArray, List.set_cons_zero, List.set_cons_succ, i64_w, i32_w]
                      rfl
                    refine one_ (i := 1) (N := some 43) #[true, true, true, false, false, false, false, false, false, false, false, false, false, false, false, false, false] rfl rfl (by kernel_rfl) (by decide) (fun K hK => ?_)
                    refine goes_ Tryz.func28 (by kernel_rfl) rfl #[.agg #[.int .i64 a0_0, .int .i64 p2]] (by rfl) rfl rfl (by first | rfl | (simp only [List.map_toArray, List.map_cons, List.map_nil]; done) | (simp only [List.map_toArray, List.map_cons, List.map_nil]; rfl)) ?_
                    with_reducible refine (unit_unit_factor.calls k a0_0 p2 _ _ HF.out).mono ?_
                    rintro e w9 ⟨rfl, hb9⟩
                    refine ⟨_, rfl, ?_⟩
                    refine hK.out _ _ ⟨((hb9.cell (World.block_lt_of_cell? _ _ (hHeld.1))).trans (hHeld.1)), ((hb9.cell (World.block_lt_of_cell? _ _ (hHeld.2.1))).trans (hHeld.2.1)), box_stays (hHeld.2.2.1) hb9, box_stays (hHeld.2.2.2.1) hb9, ranges_below (hHeld.2.2.2.2.1) hb9, below_step (hHeld.2.2.2.2.2) hb9⟩ (fun hHeld => ?_)
                    clear hK K
                    refine norm_ (a' := ?_) ?_ ?_
                    rotate_left
                    · show Act.put _ (some 43) _ = _
                      simp only [Act.put, List.setIfInBounds_toArray, List.set_cons_zero, List.set_cons_succ, i64_w, i32_w]
                      rfl
                    refine pure_ (i := 3) (N := some 45) (v := ?_) (a' := ?_) #[true, true, true, true, false, false, false, false, false, false, false, false, false, false, false, false, false] rfl rfl (by kernel_rfl) (fun _ _ _ h => h) (Or.inl ⟨by rfl, ?_⟩) ?_ ?_
                    rotate_left
                    · intro w'
                      go_simp
                      with_reducible rfl
                    rotate_left
                    · simp only [Act.put, List.setIfInBounds_toArray, List.set_cons_zero, List.set_cons_succ, i64_w, i32_w]
                      rfl
                    refine pure_ (i := 4) (N := some 46) (v := ?_) (a' := ?_) #[true, true, true, true, true, false, false, false, false, false, false, false, false, false, false, false, false] rfl rfl (by kernel_rfl) (fun _ _ _ h => h) (Or.inl ⟨by rfl, ?_⟩) ?_ ?_
                    rotate_left
                    · intro w'
                      go_simp
                      with_reducible rfl
                    rotate_left
                    · simp only [Act.put, List.setIfInBounds_toArray, List.set_cons_zero, List.set_cons_succ, i64_w, i32_w]
                      rfl
                    refine pure_ (i := 5) (N := some 47) (v := undef) (a' := ?_) #[true, true, true, true, true, true, false, false, false, false, false, false, false, false, false, false, false] rfl rfl (by kernel_rfl) (fun _ _ _ h => h) (Or.inr ⟨by rfl, rfl⟩) ?_ ?_
                    rotate_left
                    · simp only [Act.put, List.setIfInBounds_toArray, List.set_cons_zero, List.set_cons_succ, i64_w, i32_w]
                      rfl
                    refine pure_ (i := 6) (N := some 48) (v := undef) (a' := ?_) #[true, true, true, true, true, true, true, false, false, false, false, false, false, false, false, false, false] rfl rfl (by kernel_rfl) (fun _ _ _ h => h) (Or.inr ⟨by rfl, rfl⟩) ?_ ?_
                    rotate_left
                    · simp only [Act.put, List.setIfInBounds_toArray, List.set_cons_zero, List.set_cons_succ, i64_w, i32_w]
                      rfl
                    refine pure_ (i := 7) (N := some 49) (v := undef) (a' := ?_) #[true, true, true, true, true, true, true, true, false, false, false, false, false, false, false, false, false] rfl rfl (by kernel_rfl) (fun _ _ _ h => h) (Or.inr ⟨by rfl, rfl⟩) ?_ ?_
                    rotate_left
                    · simp only [Act.put, List.setIfInBounds_toArray, List.set_cons_zero, List.set_cons_succ, i64_w, i32_w]
                      rfl
                    refine pure_ (i := 8) (N := some 50) (v := undef) (a' := ?_) #[true, true, true, true, true, true, true, true, true, false, false, false, false, false, false, false, false] rfl rfl (by kernel_rfl) (fun _ _ _ h => h) (Or.inr ⟨by rfl, rfl⟩) ?_ ?_
                    rotate_left
                    · simp only [Act.put, List.setIfInBounds_toArray, List.set_cons_zero, List.set_cons_succ, i64_w, i32_w]
                      rfl
                    refine pure_ (i := 9) (N := some 51) (v := undef) (a' := ?_) #[true, true, true, true, true, true, true, true, true, true, false, false, false, false, false, false, false] rfl rfl (by kernel_rfl) (fun _ _ _ h => h) (Or.inr ⟨by rfl, rfl⟩) ?_ ?_
                    rotate_left
                    · simp only [Act.put, List.setIfInBounds_toArray, List.set_cons_zero, List.set_cons_succ, i64_w, i32_w]
                      rfl
                    refine pure_ (i := 10) (N := some 52) (v := undef) (a' := ?_) #[true, true, true, true, true, true, true, true, true, true, true, false, false, false, false, false, false] rfl rfl (by kernel_rfl) (fun _ _ _ h => h) (Or.inr ⟨by rfl, rfl⟩) ?_ ?_
                    rotate_left
                    · simp only [Act.put, List.setIfInBounds_toArray, List.set_cons_zero, List.set_cons_succ, i64_w, i32_w]
                      rfl
                    refine pure_ (i := 11) (N := some 53) (v := undef) (a' := ?_) #[true, true, true, true, true, true, true, true, true, true, true, true, false, false, false, false, false] rfl rfl (by kernel_rfl) (fun _ _ _ h => h) (Or.inr ⟨by rfl, rfl⟩) ?_ ?_
                    rotate_left
                    · simp only [Act.put, List.setIfInBounds_toArray, List.set_cons_zero, List.set_cons_succ, i64_w, i32_w]
                      rfl
                    refine pure_ (i := 12) (N := some 54) (v := undef) (a' := ?_) #[true, true, true, true, true, true, true, true, true, true, true, true, true, false, false, false, false] rfl rfl (by kernel_rfl) (fun _ _ _ h => h) (Or.inr ⟨by rfl, rfl⟩) ?_ ?_
                    rotate_left
                    · simp only [Act.put, List.setIfInBounds_toArray, List.set_cons_zero, List.set_cons_succ, i64_w, i32_w]
                      rfl
                    refine pure_ (i := 13) (N := some 55) (v := undef) (a' := ?_) #[true, true, true, true, true, true, true, true, true, true, true, true, true, true, false, false, false] rfl rfl (by kernel_rfl) (fun _ _ _ h => h) (Or.inr ⟨by rfl, rfl⟩) ?_ ?_
                    rotate_left
                    · simp only [Act.put, List.setIfInBounds_toArray, List.set_cons_zero, List.set_cons_succ, i64_w, i32_w]
                      rfl
                    refine pure_ (i := 14) (N := some 56) (v := undef) (a' := ?_) #[true, true, true, true, true, true, true, true, true, true, true, true, true, true, true, false, false] rfl rfl (by kernel_rfl) (fun _ _ _ h => h) (Or.inr ⟨by rfl, rfl⟩) ?_ ?_
                    rotate_left
                    · simp only [Act.put, List.setIfInBounds_toArray, List.set_cons_zero, List.set_cons_succ, i64_w, i32_w]
                      rfl
                    refine pure_ (i := 15) (N := some 57) (v := undef) (a' := ?_) #[true, true, true, true, true, true, true, true, true, true, true, true, true, true, true, true, false] rfl rfl (by kernel_rfl) (fun _ _ _ h => h) (Or.inr ⟨by rfl, rfl⟩) ?_ ?_
                    rotate_left
                    · simp only [Act.put, List.setIfInBounds_toArray, List.set_cons_zero, List.set_cons_succ, i64_w, i32_w]
                      rfl
                    refine pure_ (i := 16) (N := some 58) (v := ?_) (a' := ?_) #[true, true, true, true, true, true, true, true, true, true, true, true, true, true, true, true, true] rfl rfl (by kernel_rfl) (fun _ _ _ h => h) (Or.inl ⟨by rfl, ?_⟩) ?_ ?_
                    rotate_left
                    · intro w'
                      go_simp
                      with_reducible rfl
                    rotate_left
                    · simp only [Act.put, List.setIfInBounds_toArray, List.set_cons_zero, List.set_cons_succ, i64_w, i32_w]
                      rfl
                    refine done_ (by kernel_rfl) ?_
                    go_wp2
                    refine ⟨⟨best, least, _, cnt5, rfl, rfl, hHeld.2.2.2.2.1, inv_step hI2.out HAT.out rfl HL.out (Or.inr ⟨Or.inl (by rw [← HFZ.out]; exact Int.lt_of_not_ge cs), rfl⟩), hHeld.2.2.2.1, hHeld.2.2.2.2.2⟩, ?_⟩
                    rw [hHeld.2.2.2.2.1.left_eq, hrg.left_eq]
                    exact hlt5
            · have ckb : (p1 != a0_0) = true := bne_iff_ne.mpr ck
              go_wp2
              refine ⟨⟨best, least, _, cnt5, rfl, rfl, HR.out, inv_other hI2.out HAT.out ck, HQ.out, HBW.out⟩, ?_⟩
              rw [HR.out.left_eq, hrg.left_eq]
              exact hlt5
      · cases h
    · rw [if_neg c0] at h
      obtain ⟨rfl, rfl⟩ : (⟨#[]⟩ : ByteArray) = r1 ∧ (1 : Int) = r2 := by
        have := Option.some.inj h
        exact ⟨congrArg Prod.fst this, congrArg Prod.snd this⟩
      have c0b : (e0 != 0) = true := bne_iff_ne.mpr c0
      go_enter Tryz.func9, Tryz.ntmps9
      go_wp2_with (first
          | ((with_reducible refine gate_dst (N := 1) rfl ?_); refine box_event ?hg (N := 1) ?hd (cs := #[.int .i64 a0_0, .int .i64 a0_1]) (t := 23) ?hr ?_; (case hd => rfl); (case hg => rfl); (case hr => first | (go_simp; done) | (go_simp; rfl)); intro gq hgq w1 hbox1 hb1; have GQ := Aside0.mk hgq; clear hgq; have az0 : w1.cell? ⟨gq, 0, none⟩ = some (.int .i64 a0_0) := (blk_cell hbox1 0).trans rfl; have az1 : w1.cell? ⟨gq, 1, none⟩ = some (.int .i64 a0_1) := (blk_cell hbox1 1).trans rfl; have ez0 := blk_frozen hbox1 0; have ez1 := blk_frozen hbox1 1)
          | (go_at_call 12; refine (unit_Check.calls k a0_0 a0_1 e0 _ hc).mono ?_; rintro e w2 ⟨rfl, hb2⟩)
          | go_in)
      go_ret2
      exact ⟨rfl, below_step hb1 hb2⟩
end Go.Proofs.YtmjglehdckgcnaaGreatDoor.Pr
namespace Go.Proofs.YtmjglehdckgcnaaGreatDoor.Pr
open Go Go.RowKit Go.Maps Go.WideMaps Go.Proofs.YtmjglehdckgcnaaGreatDoorW.PrintWords Go.Proofs.YtmjglehdckgcnaaGreatDoorW.PrintLast Go.Proofs.YtmjglehdckgcnaaGreatDoorW.PrintMore Go.Proofs.YtmjglehdckgcnaaGreatDoor.X
theorem size_ok {s : ByteArray} (h : s.size ≤ 1000) : s.size ≤ maxLen := Nat.le_trans h (by decide)
theorem zero_unit (w : World) : (zeroValue 38).run Tryz.prog w = .ok (.agg #[.int .i64 0, .int .i64 0]) w := by go_simp
/-- 'u, is := units()[name]' at a name that there is. -/
theorem look_yes {w : World} {b : Nat} (hm : w.ownsMap Tryz.prog 9 two2 b 15 (litMap enc2 tbl)) {s : ByteArray} (hs : s.size ≤ 1000) {kd z : Int} (h : unitAt s.data.toList = some (kd, z)) :
    (Instr.lookup 40 (.map (some b)) (.string s) true).run Tryz.prog w = .ok (.tuple #[.agg #[.int .i64 kd, .int .i64 z], .bool true]) w := by
  have e := look_two_ok (w := w) Tryz.underlying40 Tryz.underlying9 (zero_unit w) hm s (size_ok hs)
  rw [show lastAt none tbl s.data.toList = some (kd, z) from h] at e
  exact e
/-- 'u, is := units()[name]' at a name that there is not. -/
theorem look_no {w : World} {b : Nat} (hm : w.ownsMap Tryz.prog 9 two2 b 15 (litMap enc2 tbl)) {s : ByteArray} (hs : s.size ≤ 1000) (h : unitAt s.data.toList = none) :
    (Instr.lookup 40 (.map (some b)) (.string s) true).run Tryz.prog w = .ok (.tuple #[.agg #[.int .i64 0, .int .i64 0], .bool false]) w := by
  have e := look_two_ok (w := w) Tryz.underlying40 Tryz.underlying9 (zero_unit w) hm s (size_ok hs)
  rw [show lastAt none tbl s.data.toList = none from h] at e
  exact e
def unit_Unit.f (k : Nat) (a0 : ByteArray) : Option (Int × Int × Int) :=
  if 12 ≤ k ∧ a0.size ≤ 1000 then (match unitAt a0.data.toList with
    | none => some (0, 0, 4)
    | some p => some (p.1, ((10 ^ p.2.toNat : Nat) : Int), 0)) else none
theorem unit_Unit.mono : ∀ a0 k, LeO (unit_Unit.f k a0) (unit_Unit.f (k + 1) a0) := by
  intro a0 k r h
  unfold unit_Unit.f at h ⊢
  split at h
  · rename_i c
    rw [if_pos ⟨by omega, c.2⟩]
    exact h
  · cases h
set_option maxHeartbeats 8000000 in
set_option maxRecDepth 100000 in
theorem unit_Unit.calls (k : Nat) (a0 : ByteArray) (r1 r2 r3 : Int) (w : World) (h : unit_Unit.f k a0 = some (r1, r2, r3)) :
    Calls Tryz.prog 10 #[.string a0] w fun e w' => e = .returned (.tuple #[.int .i64 r1, .int .i64 r2, .int .i64 r3]) ∧ Below w.heap.size w w' := by
  unfold unit_Unit.f at h
  split at h
  · rename_i hk
    have hu48 := Tryz.underlying38
    cases hu : unitAt a0.data.toList with
    | none =>
      rw [hu] at h
      simp only [Option.some.injEq, Prod.mk.injEq] at h
      obtain ⟨rfl, rfl, rfl⟩ := h
      go_enter Tryz.func10, Tryz.ntmps10
      go_wp2_with (first
        | (go_at_call 13; refine (unit_units.calls _).mono ?_; rintro e w1 ⟨b, rfl, hm1, hb1, hle1⟩; have hlk := look_no hm1 hk.2 hu)
        | ((with_reducible refine gate_dst (N := 5) rfl ?_); refine box_event ?hg (N := 5) ?hd (cs := #[.int .i64 0, .int .i64 0]) (t := 38) ?hr ?_; (case hd => rfl); (case hg => rfl); (case hr => first | (go_simp; done) | (go_simp; rfl)); intro gu hgu w2 hbox2 hb2; have GU := Aside0.mk hgu; clear hgu; have HB2 := Aside0.mk hb2; have uz0 : w2.cell? ⟨gu, 0, none⟩ = some (.int .i64 0) := (blk_cell hbox2 0).trans rfl; have uz1 : w2.cell? ⟨gu, 1, none⟩ = some (.int .i64 0) := (blk_cell hbox2 1).trans rfl; have uf0 := blk_frozen hbox2 0; have uf1 := blk_frozen hbox2 1)
        | go_in)
      go_ret3
      exact ⟨rfl, below_step hb1 ((HB2.out.setCell (p := ⟨gu, 0, none⟩) (Nat.le_of_eq GU.out.symm) _).setCell (p := ⟨gu, 1, none⟩) (Nat.le_of_eq GU.out.symm) _)⟩
    | some p =>
      obtain ⟨kd, z⟩ := p
      rw [hu] at h
      simp only [Option.some.injEq, Prod.mk.injEq] at h
      obtain ⟨h1, h2, h3⟩ := h
      subst h1 h3
      have hsm := unit_small hu
      have HF : Aside0 (unit_unit_factor.f k kd z = some r2) := ⟨by rw [← h2]; exact fact_at k kd z hsm.2.1 hsm.2.2 hk.1⟩
      clear h2
      go_enter Tryz.func10, Tryz.ntmps10
      go_upto_region 4 with (first
        | (go_at_call 13; refine (unit_units.calls _).mono ?_; rintro e w1 ⟨b, rfl, hm1, hb1, hle1⟩; have hlk := look_yes hm1 hk.2 hu)
        | ((with_reducible refine gate_dst (N := 5) rfl ?_); refine box_event ?hg (N := 5) ?hd (cs := #[.int .i64 0, .int .i64 0]) (t := 38) ?hr ?_; (case hd => rfl); (case hg => rfl); (case hr => first | (go_simp; done) | (go_simp; rfl)); intro gu hgu w2 hbox2 hb2; have GU := Aside0.mk hgu; clear hgu; have HB2 := Aside0.mk hb2; have uz0 : w2.cell? ⟨gu, 0, none⟩ = some (.int .i64 0) := (blk_cell hbox2 0).trans rfl; have uz1 : w2.cell? ⟨gu, 1, none⟩ = some (.int .i64 0) := (blk_cell hbox2 1).trans rfl; have uf0 := blk_frozen hbox2 0; have uf1 := blk_frozen hbox2 1))
      have HBW : Aside0 (Below w.heap.size w ((w2.setCell ⟨gu, 0, none⟩ (.int .i64 kd)).setCell ⟨gu, 1, none⟩ (.int .i64 z))) := ⟨below_step hb1 ((HB2.out.setCell (p := ⟨gu, 0, none⟩) (Nat.le_of_eq GU.out.symm) _).setCell (p := ⟨gu, 1, none⟩) (Nat.le_of_eq GU.out.symm) _)⟩
      have HU : Aside0 (((w2.setCell ⟨gu, 0, none⟩ (.int .i64 kd)).setCell ⟨gu, 1, none⟩ (.int .i64 z)).heap[gu]? = some (.cells #[.int .i64 kd, .int .i64 z] 38 (0, 0))) := ⟨blk_put (cs := #[.int .i64 kd, .int .i64 0]) (blk_put (cs := #[.int .i64 0, .int .i64 0]) hbox2 0 _ rfl) 1 _ rfl⟩
      generalize (w2.setCell ⟨gu, 0, none⟩ (.int .i64 kd)).setCell ⟨gu, 1, none⟩ (.int .i64 z) = w3 at HBW HU ⊢
      clear uz0 uz1 uf0 uf1 HB2 hbox2
      refine start_ (n := 7) (S := fun w' => w'.cell? ⟨gu, 0, none⟩ = some (.int .i64 kd) ∧ w'.cell? ⟨gu, 1, none⟩ = some (.int .i64 z) ∧ Below w.heap.size w w') (ds := []) #[false, false, false, false, false, false, false] (by kernel_rfl) rfl rfl ⟨(blk_cell (blk_drew HU.out) 0).trans rfl, (blk_cell (blk_drew HU.out) 1).trans rfl, below_drew1 HBW.out⟩ (fun hHeld => ?_)
      generalize World.drew _ = We at hHeld ⊢
      refine pure_ (i := 0) (N := some 15) (v := ?_) (a' := ?_) #[true, false, false, false, false, false, false] rfl rfl (by kernel_rfl) (fun _ _ _ h => h) (Or.inl ⟨by rfl, ?_⟩) ?_ ?_
      rotate_left
      · intro w'
        go_simp
        with_reducible rfl
      rotate_left
      · simp only [Act.put, List.setIfInBounds_toArray, List.set_cons_zero, List.set_cons_succ, i64_w, i32_w]
        rfl
      refine take_ (i := 1) (N := some 16) (v := ?_) (a' := ?_) #[true, true, false, false, false, false, false] rfl rfl (by kernel_rfl) (fun _ _ _ h => h) (Or.inl ⟨by rfl, ?_⟩) hHeld ?_ ?_
      rotate_left
      · rintro w' ⟨s0, s1, s2⟩
        go_simp
        with_reducible rfl
      rotate_left
      · simp only [Act.put, List.setIfInBounds_toArray, List.set_cons_zero, List.set_cons_succ, i64_w, i32_w]
        rfl
      refine take_ (i := 2) (N := some 17) (v := ?_) (a' := ?_) #[true, true, true, false, false, false, false] rfl rfl (by kernel_rfl) (fun _ _ _ h => h) (Or.inl ⟨by rfl, ?_⟩) hHeld ?_ ?_
      rotate_left
      · rintro w' ⟨s0, s1, s2⟩
        go_simp
        with_reducible rfl
      rotate_left
      · simp only [Act.put, List.setIfInBounds_toArray, List.set_cons_zero, List.set_cons_succ, i64_w, i32_w]
        rfl
      refine one_ (i := 3) (N := some 18) #[true, true, true, true, false, false, false] rfl rfl (by kernel_rfl) (by decide) (fun K hK => ?_)
      refine goes_ Tryz.func28 (by kernel_rfl) rfl #[.agg #[.int .i64 kd, .int .i64 z]] (by rfl) rfl rfl (by first | rfl | (simp only [List.map_toArray, List.map_cons, List.map_nil]; done) | (simp only [List.map_toArray, List.map_cons, List.map_nil]; rfl)) ?_
      with_reducible refine (unit_unit_factor.calls k kd z _ _ HF.out).mono ?_
      rintro e w9 ⟨rfl, hb9⟩
      refine ⟨_, rfl, ?_⟩
      refine hK.out _ _ ⟨((hb9.cell (World.block_lt_of_cell? _ _ (hHeld.1))).trans (hHeld.1)), ((hb9.cell (World.block_lt_of_cell? _ _ (hHeld.2.1))).trans (hHeld.2.1)), below_step (hHeld.2.2) hb9⟩ (fun hHeld => ?_)
      clear hK K
      refine norm_ (a' := ?_) ?_ ?_
      rotate_left
      · show Act.put _ (some 18) _ = _
        simp only [Act.put, List.setIfInBounds_toArray, List.set_cons_zero, List.set_cons_succ, i64_w, i32_w]
        rfl
      refine pure_ (i := 4) (N := some 2) (v := ?_) (a' := ?_) #[true, true, true, true, true, false, false] rfl rfl (by kernel_rfl) (fun _ _ _ h => h) (Or.inl ⟨by rfl, ?_⟩) ?_ ?_
      rotate_left
      · intro w'
        go_simp
        with_reducible rfl
      rotate_left
      · simp only [Act.put, List.setIfInBounds_toArray, List.set_cons_zero, List.set_cons_succ, i64_w, i32_w]
        rfl
      refine pure_ (i := 5) (N := some 3) (v := ?_) (a' := ?_) #[true, true, true, true, true, true, false] rfl rfl (by kernel_rfl) (fun _ _ _ h => h) (Or.inl ⟨by rfl, ?_⟩) ?_ ?_
      rotate_left
      · intro w'
        go_simp
        with_reducible rfl
      rotate_left
      · simp only [Act.put, List.setIfInBounds_toArray, List.set_cons_zero, List.set_cons_succ, i64_w, i32_w]
        rfl
      refine pure_ (i := 6) (N := some 4) (v := ?_) (a' := ?_) #[true, true, true, true, true, true, true] rfl rfl (by kernel_rfl) (fun _ _ _ h => h) (Or.inl ⟨by rfl, ?_⟩) ?_ ?_
      rotate_left
      · intro w'
        go_simp
        with_reducible rfl
      rotate_left
      · simp only [Act.put, List.setIfInBounds_toArray, List.set_cons_zero, List.set_cons_succ, i64_w, i32_w]
        rfl
      refine done_ (by kernel_rfl) ?_
      go_wp2
      go_ret3
      exact ⟨rfl, hHeld.2.2⟩
  · cases h
end Go.Proofs.YtmjglehdckgcnaaGreatDoor.Pr
namespace Go.Proofs
open Go.Shelf
def Tryz.lays161_ren : Go.Shelf.Ren := ⟨fun | 161 => 22 | 231 => 50 | 227 => 41 | 233 => 51 | 235 => 52 | 228 => 63 | 197 => 69 | 151 => 65 | 260 => 87 | 152 => 82 | 137 => 96 | 119 => 97 | 224 => 85 | 225 => 84 | 217 => 83 | 266 => 98 | n => n, fun | 9 => 9 | 4 => 4 | 3 => 3 | 5 => 5 | 117 => 76 | 116 => 75 | 0 => 0 | 124 => 79 | 105 => 98 | 21 => 21 | 119 => 133 | 46 => 63 | 139 => 136 | 138 => 135 | n => n, fun | 3 => 4 | 4 => 5 | n => n⟩
theorem Tryz.lays161 : Go.Proofs.Lays.n161 Tryz.prog Tryz.lays161_ren := {
  mixed := by kernel_rfl
  f119 := Tryz.func97.trans (congrArg some (by kernel_rfl))
  f137 := Tryz.func96.trans (congrArg some (by kernel_rfl))
  f151 := Tryz.func65.trans (congrArg some (by kernel_rfl))
  f152 := Tryz.func82.trans (congrArg some (by kernel_rfl))
  f161 := Tryz.func22.trans (congrArg some (by kernel_rfl))
  f197 := Tryz.func69.trans (congrArg some (by kernel_rfl))
  f217 := Tryz.func83.trans (congrArg some (by kernel_rfl))
  f224 := Tryz.func85.trans (congrArg some (by kernel_rfl))
  f225 := Tryz.func84.trans (congrArg some (by kernel_rfl))
  f227 := Tryz.func41.trans (congrArg some (by kernel_rfl))
  f228 := Tryz.func63.trans (congrArg some (by kernel_rfl))
  f231 := Tryz.func50.trans (congrArg some (by kernel_rfl))
  f233 := Tryz.func51.trans (congrArg some (by kernel_rfl))
  f235 := Tryz.func52.trans (congrArg some (by kernel_rfl))
  f260 := Tryz.func87.trans (congrArg some (by kernel_rfl))
  f266 := Tryz.func98.trans (congrArg some (by kernel_rfl))
  t0 := Tryz.underlying0
  a0 := Tryz.isAgg0
  z0 := Tryz.sizeOf0
  v0 := Tryz.zeroValue0
  t3 := Tryz.underlying3
  a3 := Tryz.isAgg3
  z3 := Tryz.sizeOf3
  v3 := Tryz.zeroValue3
  t4 := Tryz.underlying4
  a4 := Tryz.isAgg4
  z4 := Tryz.sizeOf4
  v4 := Tryz.zeroValue4
  t5 := Tryz.underlying5
  a5 := Tryz.isAgg5
  z5 := Tryz.sizeOf5
  v5 := Tryz.zeroValue5
  t9 := Tryz.underlying9
  a9 := Tryz.isAgg9
  z9 := Tryz.sizeOf9
  v9 := Tryz.zeroValue9
  t21 := Tryz.underlying21
  a21 := Tryz.isAgg21
  z21 := Tryz.sizeOf21
  v21 := Tryz.zeroValue21
  t46 := Tryz.underlying63
  a46 := Tryz.isAgg63
  z46 := Tryz.sizeOf63
  v46 := Tryz.zeroValue63
  t105 := Tryz.underlying98
  a105 := Tryz.isAgg98
  z105 := Tryz.sizeOf98
  v105 := Tryz.zeroValue98
  t116 := Tryz.underlying75
  a116 := Tryz.isAgg75
  z116 := Tryz.sizeOf75
  t117 := Tryz.underlying76
  a117 := Tryz.isAgg76
  z117 := Tryz.sizeOf76
  v117 := Tryz.zeroValue76
  t119 := Tryz.underlying133
  a119 := Tryz.isAgg133
  z119 := Tryz.sizeOf133
  t124 := Tryz.underlying79
  a124 := Tryz.isAgg79
  z124 := Tryz.sizeOf79
  v124 := Tryz.zeroValue79
  t138 := Tryz.underlying135
  a138 := Tryz.isAgg135
  z138 := Tryz.sizeOf135
  v138 := Tryz.zeroValue135
  t139 := Tryz.underlying136
  a139 := Tryz.isAgg136
  z139 := Tryz.sizeOf136
  v139 := Tryz.zeroValue136
  g3 := by kernel_rfl
  g4 := by kernel_rfl }
def Tryz.lays162_ren : Go.Shelf.Ren := ⟨fun | 162 => 16 | 232 => 40 | 227 => 41 | 234 => 42 | 236 => 43 | 228 => 63 | 271 => 64 | 151 => 65 | 120 => 81 | 197 => 69 | 152 => 82 | 260 => 87 | 137 => 96 | 119 => 97 | 224 => 85 | 225 => 84 | 217 => 83 | 266 => 98 | n => n, fun | 9 => 9 | 4 => 4 | 3 => 3 | 5 => 5 | 117 => 76 | 116 => 75 | 0 => 0 | 124 => 79 | 21 => 21 | 105 => 98 | 46 => 63 | 119 => 133 | 139 => 136 | 138 => 135 | n => n, fun | 3 => 4 | 4 => 5 | n => n⟩
theorem Tryz.lays162 : Go.Proofs.Lays.n162 Tryz.prog Tryz.lays162_ren := {
  mixed := by kernel_rfl
  f119 := Tryz.func97.trans (congrArg some (by kernel_rfl))
  f120 := Tryz.func81.trans (congrArg some (by kernel_rfl))
  f137 := Tryz.func96.trans (congrArg some (by kernel_rfl))
  f151 := Tryz.func65.trans (congrArg some (by kernel_rfl))
  f152 := Tryz.func82.trans (congrArg some (by kernel_rfl))
  f162 := Tryz.func16.trans (congrArg some (by kernel_rfl))
  f197 := Tryz.func69.trans (congrArg some (by kernel_rfl))
  f217 := Tryz.func83.trans (congrArg some (by kernel_rfl))
  f224 := Tryz.func85.trans (congrArg some (by kernel_rfl))
  f225 := Tryz.func84.trans (congrArg some (by kernel_rfl))
  f227 := Tryz.func41.trans (congrArg some (by kernel_rfl))
  f228 := Tryz.func63.trans (congrArg some (by kernel_rfl))
  f232 := Tryz.func40.trans (congrArg some (by kernel_rfl))
  f234 := Tryz.func42.trans (congrArg some (by kernel_rfl))
  f236 := Tryz.func43.trans (congrArg some (by kernel_rfl))
  f260 := Tryz.func87.trans (congrArg some (by kernel_rfl))
  f266 := Tryz.func98.trans (congrArg some (by kernel_rfl))
  f271 := Tryz.func64.trans (congrArg some (by kernel_rfl))
  t0 := Tryz.underlying0
  a0 := Tryz.isAgg0
  z0 := Tryz.sizeOf0
  v0 := Tryz.zeroValue0
  t3 := Tryz.underlying3
  a3 := Tryz.isAgg3
  z3 := Tryz.sizeOf3
  v3 := Tryz.zeroValue3
  t4 := Tryz.underlying4
  a4 := Tryz.isAgg4
  z4 := Tryz.sizeOf4
  v4 := Tryz.zeroValue4
  t5 := Tryz.underlying5
  a5 := Tryz.isAgg5
  z5 := Tryz.sizeOf5
  v5 := Tryz.zeroValue5
  t9 := Tryz.underlying9
  a9 := Tryz.isAgg9
  z9 := Tryz.sizeOf9
  v9 := Tryz.zeroValue9
  t21 := Tryz.underlying21
  a21 := Tryz.isAgg21
  z21 := Tryz.sizeOf21
  v21 := Tryz.zeroValue21
  t46 := Tryz.underlying63
  a46 := Tryz.isAgg63
  z46 := Tryz.sizeOf63
  v46 := Tryz.zeroValue63
  t105 := Tryz.underlying98
  a105 := Tryz.isAgg98
  z105 := Tryz.sizeOf98
  v105 := Tryz.zeroValue98
  t116 := Tryz.underlying75
  a116 := Tryz.isAgg75
  z116 := Tryz.sizeOf75
  t117 := Tryz.underlying76
  a117 := Tryz.isAgg76
  z117 := Tryz.sizeOf76
  v117 := Tryz.zeroValue76
  t119 := Tryz.underlying133
  a119 := Tryz.isAgg133
  z119 := Tryz.sizeOf133
  t124 := Tryz.underlying79
  a124 := Tryz.isAgg79
  z124 := Tryz.sizeOf79
  v124 := Tryz.zeroValue79
  t138 := Tryz.underlying135
  a138 := Tryz.isAgg135
  z138 := Tryz.sizeOf135
  v138 := Tryz.zeroValue135
  t139 := Tryz.underlying136
  a139 := Tryz.isAgg136
  z139 := Tryz.sizeOf136
  v139 := Tryz.zeroValue136
  g3 := by kernel_rfl
  g4 := by kernel_rfl }
def Tryz.lays160_ren : Go.Shelf.Ren := ⟨fun | 160 => 49 | 232 => 40 | 231 => 50 | 227 => 41 | 234 => 42 | 233 => 51 | 236 => 43 | 235 => 52 | 228 => 63 | 271 => 64 | 151 => 65 | 197 => 69 | 120 => 81 | 152 => 82 | 260 => 87 | 137 => 96 | 119 => 97 | 224 => 85 | 225 => 84 | 217 => 83 | 266 => 98 | n => n, fun | 9 => 9 | 4 => 4 | 3 => 3 | 5 => 5 | 117 => 76 | 116 => 75 | 0 => 0 | 124 => 79 | 21 => 21 | 105 => 98 | 46 => 63 | 119 => 133 | 139 => 136 | 138 => 135 | n => n, fun | 3 => 4 | 4 => 5 | n => n⟩
theorem Tryz.lays160 : Go.Proofs.Lays.n160 Tryz.prog Tryz.lays160_ren := {
  mixed := by kernel_rfl
  f119 := Tryz.func97.trans (congrArg some (by kernel_rfl))
  f120 := Tryz.func81.trans (congrArg some (by kernel_rfl))
  f137 := Tryz.func96.trans (congrArg some (by kernel_rfl))
  f151 := Tryz.func65.trans (congrArg some (by kernel_rfl))
  f152 := Tryz.func82.trans (congrArg some (by kernel_rfl))
  f160 := Tryz.func49.trans (congrArg some (by kernel_rfl))
  f197 := Tryz.func69.trans (congrArg some (by kernel_rfl))
  f217 := Tryz.func83.trans (congrArg some (by kernel_rfl))
  f224 := Tryz.func85.trans (congrArg some (by kernel_rfl))
  f225 := Tryz.func84.trans (congrArg some (by kernel_rfl))
  f227 := Tryz.func41.trans (congrArg some (by kernel_rfl))
  f228 := Tryz.func63.trans (congrArg some (by kernel_rfl))
  f231 := Tryz.func50.trans (congrArg some (by kernel_rfl))
  f232 := Tryz.func40.trans (congrArg some (by kernel_rfl))
  f233 := Tryz.func51.trans (congrArg some (by kernel_rfl))
  f234 := Tryz.func42.trans (congrArg some (by kernel_rfl))
  f235 := Tryz.func52.trans (congrArg some (by kernel_rfl))
  f236 := Tryz.func43.trans (congrArg some (by kernel_rfl))
  f260 := Tryz.func87.trans (congrArg some (by kernel_rfl))
  f266 := Tryz.func98.trans (congrArg some (by kernel_rfl))
  f271 := Tryz.func64.trans (congrArg some (by kernel_rfl))
  t0 := Tryz.underlying0
  a0 := Tryz.isAgg0
  z0 := Tryz.sizeOf0
  v0 := Tryz.zeroValue0
  t3 := Tryz.underlying3
  a3 := Tryz.isAgg3
  z3 := Tryz.sizeOf3
  v3 := Tryz.zeroValue3
  t4 := Tryz.underlying4
  a4 := Tryz.isAgg4
  z4 := Tryz.sizeOf4
  v4 := Tryz.zeroValue4
  t5 := Tryz.underlying5
  a5 := Tryz.isAgg5
  z5 := Tryz.sizeOf5
  v5 := Tryz.zeroValue5
  t9 := Tryz.underlying9
  a9 := Tryz.isAgg9
  z9 := Tryz.sizeOf9
  v9 := Tryz.zeroValue9
  t21 := Tryz.underlying21
  a21 := Tryz.isAgg21
  z21 := Tryz.sizeOf21
  v21 := Tryz.zeroValue21
  t46 := Tryz.underlying63
  a46 := Tryz.isAgg63
  z46 := Tryz.sizeOf63
  v46 := Tryz.zeroValue63
  t105 := Tryz.underlying98
  a105 := Tryz.isAgg98
  z105 := Tryz.sizeOf98
  v105 := Tryz.zeroValue98
  t116 := Tryz.underlying75
  a116 := Tryz.isAgg75
  z116 := Tryz.sizeOf75
  t117 := Tryz.underlying76
  a117 := Tryz.isAgg76
  z117 := Tryz.sizeOf76
  v117 := Tryz.zeroValue76
  t119 := Tryz.underlying133
  a119 := Tryz.isAgg133
  z119 := Tryz.sizeOf133
  t124 := Tryz.underlying79
  a124 := Tryz.isAgg79
  z124 := Tryz.sizeOf79
  v124 := Tryz.zeroValue79
  t138 := Tryz.underlying135
  a138 := Tryz.isAgg135
  z138 := Tryz.sizeOf135
  v138 := Tryz.zeroValue135
  t139 := Tryz.underlying136
  a139 := Tryz.isAgg136
  z139 := Tryz.sizeOf136
  v139 := Tryz.zeroValue136
  g3 := by kernel_rfl
  g4 := by kernel_rfl }
def Tryz.lays172_ren : Go.Shelf.Ren := ⟨fun | 172 => 23 | 244 => 53 | 245 => 54 | 247 => 70 | 279 => 71 | 280 => 72 | 281 => 73 | 282 => 74 | 287 => 88 | 316 => 89 | 171 => 14 | 205 => 90 | 321 => 100 | 322 => 101 | 243 => 33 | 246 => 57 | 283 => 75 | 284 => 76 | 285 => 77 | 286 => 78 | 129 => 92 | 317 => 91 | 318 => 93 | 319 => 94 | 320 => 95 | 337 => 102 | 338 => 103 | n => n, fun | 9 => 9 | 3 => 3 | 75 => 51 | 76 => 52 | 4 => 4 | 5 => 5 | 167 => 104 | 37 => 68 | 0 => 0 | 85 => 105 | 2 => 2 | 168 => 107 | 53 => 93 | 175 => 120 | 46 => 63 | 210 => 124 | 127 => 96 | 145 => 140 | 143 => 138 | 21 => 21 | 171 => 110 | 173 => 113 | 212 => 127 | 51 => 90 | 20 => 20 | 213 => 128 | 232 => 142 | 233 => 143 | 80 => 72 | n => n, fun | 15 => 1 | 16 => 2 | 17 => 3 | 18 => 6 | 19 => 7 | n => n⟩
theorem Tryz.lays172 : Go.Proofs.Lays.n172 Tryz.prog Tryz.lays172_ren := {
  mixed := by kernel_rfl
  f129 := Tryz.func92.trans (congrArg some (by kernel_rfl))
  f171 := Tryz.func14.trans (congrArg some (by kernel_rfl))
  f172 := Tryz.func23.trans (congrArg some (by kernel_rfl))
  f205 := Tryz.func90.trans (congrArg some (by kernel_rfl))
  f243 := Tryz.func33.trans (congrArg some (by kernel_rfl))
  f244 := Tryz.func53.trans (congrArg some (by kernel_rfl))
  f245 := Tryz.func54.trans (congrArg some (by kernel_rfl))
  f246 := Tryz.func57.trans (congrArg some (by kernel_rfl))
  f247 := Tryz.func70.trans (congrArg some (by kernel_rfl))
  f279 := Tryz.func71.trans (congrArg some (by kernel_rfl))
  f280 := Tryz.func72.trans (congrArg some (by kernel_rfl))
  f281 := Tryz.func73.trans (congrArg some (by kernel_rfl))
  f282 := Tryz.func74.trans (congrArg some (by kernel_rfl))
  f283 := Tryz.func75.trans (congrArg some (by kernel_rfl))
  f284 := Tryz.func76.trans (congrArg some (by kernel_rfl))
  f285 := Tryz.func77.trans (congrArg some (by kernel_rfl))
  f286 := Tryz.func78.trans (congrArg some (by kernel_rfl))
  f287 := Tryz.func88.trans (congrArg some (by kernel_rfl))
  f316 := Tryz.func89.trans (congrArg some (by kernel_rfl))
  f317 := Tryz.func91.trans (congrArg some (by kernel_rfl))
  f318 := Tryz.func93.trans (congrArg some (by kernel_rfl))
  f319 := Tryz.func94.trans (congrArg some (by kernel_rfl))
  f320 := Tryz.func95.trans (congrArg some (by kernel_rfl))
  f321 := Tryz.func100.trans (congrArg some (by kernel_rfl))
  f322 := Tryz.func101.trans (congrArg some (by kernel_rfl))
  f337 := Tryz.func102.trans (congrArg some (by kernel_rfl))
  f338 := Tryz.func103.trans (congrArg some (by kernel_rfl))
  t0 := Tryz.underlying0
  a0 := Tryz.isAgg0
  z0 := Tryz.sizeOf0
  v0 := Tryz.zeroValue0
  t2 := Tryz.underlying2
  a2 := Tryz.isAgg2
  z2 := Tryz.sizeOf2
  v2 := Tryz.zeroValue2
  t3 := Tryz.underlying3
  a3 := Tryz.isAgg3
  z3 := Tryz.sizeOf3
  v3 := Tryz.zeroValue3
  t4 := Tryz.underlying4
  a4 := Tryz.isAgg4
  z4 := Tryz.sizeOf4
  v4 := Tryz.zeroValue4
  t5 := Tryz.underlying5
  a5 := Tryz.isAgg5
  z5 := Tryz.sizeOf5
  v5 := Tryz.zeroValue5
  t9 := Tryz.underlying9
  a9 := Tryz.isAgg9
  z9 := Tryz.sizeOf9
  v9 := Tryz.zeroValue9
  t20 := Tryz.underlying20
  a20 := Tryz.isAgg20
  z20 := Tryz.sizeOf20
  v20 := Tryz.zeroValue20
  t21 := Tryz.underlying21
  a21 := Tryz.isAgg21
  z21 := Tryz.sizeOf21
  v21 := Tryz.zeroValue21
  t37 := Tryz.underlying68
  a37 := Tryz.isAgg68
  z37 := Tryz.sizeOf68
  v37 := Tryz.zeroValue68
  t46 := Tryz.underlying63
  a46 := Tryz.isAgg63
  z46 := Tryz.sizeOf63
  v46 := Tryz.zeroValue63
  t51 := Tryz.underlying90
  a51 := Tryz.isAgg90
  z51 := Tryz.sizeOf90
  v51 := Tryz.zeroValue90
  t53 := Tryz.underlying93
  a53 := Tryz.isAgg93
  z53 := Tryz.sizeOf93
  v53 := Tryz.zeroValue93
  t75 := Tryz.underlying51
  a75 := Tryz.isAgg51
  z75 := Tryz.sizeOf51
  v75 := Tryz.zeroValue51
  t76 := Tryz.underlying52
  a76 := Tryz.isAgg52
  z76 := Tryz.sizeOf52
  v76 := Tryz.zeroValue52
  t85 := Tryz.underlying105
  a85 := Tryz.isAgg105
  z85 := Tryz.sizeOf105
  v85 := Tryz.zeroValue105
  t127 := Tryz.underlying96
  a127 := Tryz.isAgg96
  z127 := Tryz.sizeOf96
  v127 := Tryz.zeroValue96
  t143 := Tryz.underlying138
  a143 := Tryz.isAgg138
  z143 := Tryz.sizeOf138
  v143 := Tryz.zeroValue138
  t145 := Tryz.underlying140
  a145 := Tryz.isAgg140
  z145 := Tryz.sizeOf140
  v145 := Tryz.zeroValue140
  t167 := Tryz.underlying104
  a167 := Tryz.isAgg104
  z167 := Tryz.sizeOf104
  v167 := Tryz.zeroValue104
  t168 := Tryz.underlying107
  a168 := Tryz.isAgg107
  z168 := Tryz.sizeOf107
  v168 := Tryz.zeroValue107
  t171 := Tryz.underlying110
  a171 := Tryz.isAgg110
  z171 := Tryz.sizeOf110
  v171 := Tryz.zeroValue110
  t173 := Tryz.underlying113
  a173 := Tryz.isAgg113
  z173 := Tryz.sizeOf113
  v173 := Tryz.zeroValue113
  t175 := Tryz.underlying120
  a175 := Tryz.isAgg120
  z175 := Tryz.sizeOf120
  v175 := Tryz.zeroValue120
  t210 := Tryz.underlying124
  a210 := Tryz.isAgg124
  z210 := Tryz.sizeOf124
  v210 := Tryz.zeroValue124
  t212 := Tryz.underlying127
  a212 := Tryz.isAgg127
  z212 := Tryz.sizeOf127
  v212 := Tryz.zeroValue127
  t213 := Tryz.underlying128
  a213 := Tryz.isAgg128
  z213 := Tryz.sizeOf128
  t232 := Tryz.underlying142
  a232 := Tryz.isAgg142
  z232 := Tryz.sizeOf142
  v232 := Tryz.zeroValue142
  t233 := Tryz.underlying143
  a233 := Tryz.isAgg143
  z233 := Tryz.sizeOf143
  v233 := Tryz.zeroValue143
  g15 := by kernel_rfl
  g16 := by kernel_rfl
  g17 := by kernel_rfl
  g18 := by kernel_rfl
  g19 := by kernel_rfl }
open Go.RowKit in /-- strconv.Atoi: "Atoi is equivalent to ParseInt(s, 10, 0), converted to type int.": AT A DECIMAL NUMERAL OF AT MOST 18 BYTES: its value, and a nil error. The world behind the call: the one new row that the library's '[]byte(s)' lays. (LAID: no walk: one application.) -/ theorem Tryz.strconv_Atoi (s : ByteArray) (n : Int) (hl : s.size ≤ 18) (h : Lib.atoi s.data.toList = some n) (w : World) : Calls Tryz.prog 23 #[.string s] w fun e w' => e = .returned (.tuple #[.int .i64 n, .nilIface]) ∧ ∃ t, w' = Lib.bytesWorld w 5 t := Any.strconv_Atoi Tryz.lays172 s n hl h w
def Tryz.laysM171_ren : Go.Shelf.Ren := ⟨fun | 171 => 14 | 243 => 33 | 246 => 57 | 283 => 75 | 284 => 76 | 285 => 77 | 286 => 78 | 129 => 92 | 317 => 91 | 318 => 93 | 319 => 94 | 320 => 95 | 337 => 102 | 338 => 103 | n => n, fun | 3 => 3 | 9 => 9 | 2 => 2 | 4 => 4 | 171 => 110 | 0 => 0 | 53 => 93 | 37 => 68 | 5 => 5 | 173 => 113 | 212 => 127 | 51 => 90 | 20 => 20 | 213 => 128 | 46 => 63 | 232 => 142 | 233 => 143 | n => n, fun | 17 => 3 | 18 => 6 | 19 => 7 | n => n⟩
theorem Tryz.laysM171 : Go.Proofs.LaysM.n171 Tryz.prog Tryz.laysM171_ren := {
  mixed := by kernel_rfl
  f129 := Tryz.func92.trans (congrArg some (by kernel_rfl))
  f171 := Tryz.func14.trans (congrArg some (by kernel_rfl))
  f243 := Tryz.func33.trans (congrArg some (by kernel_rfl))
  f246 := Tryz.func57.trans (congrArg some (by kernel_rfl))
  f283 := Tryz.func75.trans (congrArg some (by kernel_rfl))
  f284 := Tryz.func76.trans (congrArg some (by kernel_rfl))
  f285 := Tryz.func77.trans (congrArg some (by kernel_rfl))
  f286 := Tryz.func78.trans (congrArg some (by kernel_rfl))
  f317 := Tryz.func91.trans (congrArg some (by kernel_rfl))
  f318 := Tryz.func93.trans (congrArg some (by kernel_rfl))
  f319 := Tryz.func94.trans (congrArg some (by kernel_rfl))
  f320 := Tryz.func95.trans (congrArg some (by kernel_rfl))
  f337 := Tryz.func102.trans (congrArg some (by kernel_rfl))
  f338 := Tryz.func103.trans (congrArg some (by kernel_rfl))
  t0 := Tryz.underlying0
  a0 := Tryz.isAgg0
  z0 := Tryz.sizeOf0
  v0 := Tryz.zeroValue0
  t2 := Tryz.underlying2
  a2 := Tryz.isAgg2
  z2 := Tryz.sizeOf2
  v2 := Tryz.zeroValue2
  t3 := Tryz.underlying3
  a3 := Tryz.isAgg3
  z3 := Tryz.sizeOf3
  v3 := Tryz.zeroValue3
  t4 := Tryz.underlying4
  a4 := Tryz.isAgg4
  z4 := Tryz.sizeOf4
  v4 := Tryz.zeroValue4
  t5 := Tryz.underlying5
  a5 := Tryz.isAgg5
  z5 := Tryz.sizeOf5
  v5 := Tryz.zeroValue5
  t9 := Tryz.underlying9
  a9 := Tryz.isAgg9
  z9 := Tryz.sizeOf9
  v9 := Tryz.zeroValue9
  t20 := Tryz.underlying20
  a20 := Tryz.isAgg20
  z20 := Tryz.sizeOf20
  v20 := Tryz.zeroValue20
  t37 := Tryz.underlying68
  a37 := Tryz.isAgg68
  z37 := Tryz.sizeOf68
  v37 := Tryz.zeroValue68
  t46 := Tryz.underlying63
  a46 := Tryz.isAgg63
  z46 := Tryz.sizeOf63
  v46 := Tryz.zeroValue63
  t51 := Tryz.underlying90
  a51 := Tryz.isAgg90
  z51 := Tryz.sizeOf90
  v51 := Tryz.zeroValue90
  t53 := Tryz.underlying93
  a53 := Tryz.isAgg93
  z53 := Tryz.sizeOf93
  v53 := Tryz.zeroValue93
  t171 := Tryz.underlying110
  a171 := Tryz.isAgg110
  z171 := Tryz.sizeOf110
  v171 := Tryz.zeroValue110
  t173 := Tryz.underlying113
  a173 := Tryz.isAgg113
  z173 := Tryz.sizeOf113
  v173 := Tryz.zeroValue113
  t212 := Tryz.underlying127
  a212 := Tryz.isAgg127
  z212 := Tryz.sizeOf127
  v212 := Tryz.zeroValue127
  t213 := Tryz.underlying128
  a213 := Tryz.isAgg128
  z213 := Tryz.sizeOf128
  t232 := Tryz.underlying142
  a232 := Tryz.isAgg142
  z232 := Tryz.sizeOf142
  v232 := Tryz.zeroValue142
  t233 := Tryz.underlying143
  a233 := Tryz.isAgg143
  z233 := Tryz.sizeOf143
  v233 := Tryz.zeroValue143
  g17 := by kernel_rfl
  g18 := by kernel_rfl
  g19 := by kernel_rfl
  i0 := by kernel_rfl
  i2 := by kernel_rfl
  i3 := by kernel_rfl
  i4 := by kernel_rfl
  i5 := by kernel_rfl
  i9 := by kernel_rfl
  i20 := by kernel_rfl
  i37 := by kernel_rfl
  i46 := by kernel_rfl
  i51 := by kernel_rfl
  i53 := by kernel_rfl
  i171 := by kernel_rfl
  i173 := by kernel_rfl
  i212 := by kernel_rfl
  i232 := by kernel_rfl
  i233 := by kernel_rfl
  m17 := by kernel_rfl
  m18 := by kernel_rfl
  m19 := by kernel_rfl }
open Go.RowKit Go.Sort Go.Lib in /-- strconv.Itoa: "Itoa is equivalent to FormatInt(int64(i), 10).": i's DECIMAL NUMERAL ('Lib.itoa': a '-' where i is negative, then the digits), FOR EVERY int. The world behind the call: the world before it, new blocks behind the heap (the library's 'var a [24]byte'), draws. (LAID: no walk: one application.) -/ theorem Tryz.strconv_Itoa (n : Int) (h0 : -9223372036854775808 ≤ n) (h1 : n ≤ 9223372036854775807) (w : World) (htab : Lib.TabIs Tryz.prog w "internal/strconv.uint64pow10" .u64 Lib.pow10Tab) : Calls Tryz.prog 14 #[.int .i64 n] w fun e w' => e = .returned (.string ⟨(Lib.itoa n).toArray⟩) ∧ ∃ k os, w' = grow (w.drewN k) os := Any.strconv_Itoa Tryz.laysM171 n h0 h1 w htab
def Tryz.laysC172_ren : Go.Shelf.Ren := ⟨fun | 172 => 23 | 244 => 53 | 245 => 54 | 247 => 70 | 279 => 71 | 280 => 72 | 281 => 73 | 282 => 74 | 287 => 88 | 316 => 89 | 171 => 14 | 205 => 90 | 321 => 100 | 322 => 101 | 243 => 33 | 246 => 57 | 283 => 75 | 284 => 76 | 285 => 77 | 286 => 78 | 129 => 92 | 317 => 91 | 318 => 93 | 319 => 94 | 320 => 95 | 337 => 102 | 338 => 103 | n => n, fun | 9 => 9 | 3 => 3 | 75 => 51 | 76 => 52 | 4 => 4 | 5 => 5 | 167 => 104 | 37 => 68 | 0 => 0 | 85 => 105 | 2 => 2 | 168 => 107 | 53 => 93 | 175 => 120 | 46 => 63 | 210 => 124 | 127 => 96 | 145 => 140 | 143 => 138 | 21 => 21 | 171 => 110 | 173 => 113 | 212 => 127 | 51 => 90 | 20 => 20 | 213 => 128 | 232 => 142 | 233 => 143 | 80 => 72 | n => n, fun | 15 => 1 | 16 => 2 | 17 => 3 | 18 => 6 | 19 => 7 | n => n⟩
theorem Tryz.laysC172 : Go.Proofs.LaysC.n172 Tryz.prog Tryz.laysC172_ren := {
  mixed := by kernel_rfl
  f129 := Tryz.func92.trans (congrArg some (by kernel_rfl))
  f171 := Tryz.func14.trans (congrArg some (by kernel_rfl))
  f172 := Tryz.func23.trans (congrArg some (by kernel_rfl))
  f205 := Tryz.func90.trans (congrArg some (by kernel_rfl))
  f243 := Tryz.func33.trans (congrArg some (by kernel_rfl))
  f244 := Tryz.func53.trans (congrArg some (by kernel_rfl))
  f245 := Tryz.func54.trans (congrArg some (by kernel_rfl))
  f246 := Tryz.func57.trans (congrArg some (by kernel_rfl))
  f247 := Tryz.func70.trans (congrArg some (by kernel_rfl))
  f279 := Tryz.func71.trans (congrArg some (by kernel_rfl))
  f280 := Tryz.func72.trans (congrArg some (by kernel_rfl))
  f281 := Tryz.func73.trans (congrArg some (by kernel_rfl))
  f282 := Tryz.func74.trans (congrArg some (by kernel_rfl))
  f283 := Tryz.func75.trans (congrArg some (by kernel_rfl))
  f284 := Tryz.func76.trans (congrArg some (by kernel_rfl))
  f285 := Tryz.func77.trans (congrArg some (by kernel_rfl))
  f286 := Tryz.func78.trans (congrArg some (by kernel_rfl))
  f287 := Tryz.func88.trans (congrArg some (by kernel_rfl))
  f316 := Tryz.func89.trans (congrArg some (by kernel_rfl))
  f317 := Tryz.func91.trans (congrArg some (by kernel_rfl))
  f318 := Tryz.func93.trans (congrArg some (by kernel_rfl))
  f319 := Tryz.func94.trans (congrArg some (by kernel_rfl))
  f320 := Tryz.func95.trans (congrArg some (by kernel_rfl))
  f321 := Tryz.func100.trans (congrArg some (by kernel_rfl))
  f322 := Tryz.func101.trans (congrArg some (by kernel_rfl))
  f337 := Tryz.func102.trans (congrArg some (by kernel_rfl))
  f338 := Tryz.func103.trans (congrArg some (by kernel_rfl))
  t0 := Tryz.underlying0
  a0 := Tryz.isAgg0
  z0 := Tryz.sizeOf0
  v0 := Tryz.zeroValue0
  t2 := Tryz.underlying2
  a2 := Tryz.isAgg2
  z2 := Tryz.sizeOf2
  v2 := Tryz.zeroValue2
  t3 := Tryz.underlying3
  a3 := Tryz.isAgg3
  z3 := Tryz.sizeOf3
  v3 := Tryz.zeroValue3
  t4 := Tryz.underlying4
  a4 := Tryz.isAgg4
  z4 := Tryz.sizeOf4
  v4 := Tryz.zeroValue4
  t5 := Tryz.underlying5
  a5 := Tryz.isAgg5
  z5 := Tryz.sizeOf5
  v5 := Tryz.zeroValue5
  t9 := Tryz.underlying9
  a9 := Tryz.isAgg9
  z9 := Tryz.sizeOf9
  v9 := Tryz.zeroValue9
  t20 := Tryz.underlying20
  a20 := Tryz.isAgg20
  z20 := Tryz.sizeOf20
  v20 := Tryz.zeroValue20
  t21 := Tryz.underlying21
  a21 := Tryz.isAgg21
  z21 := Tryz.sizeOf21
  v21 := Tryz.zeroValue21
  t37 := Tryz.underlying68
  a37 := Tryz.isAgg68
  z37 := Tryz.sizeOf68
  v37 := Tryz.zeroValue68
  t46 := Tryz.underlying63
  a46 := Tryz.isAgg63
  z46 := Tryz.sizeOf63
  v46 := Tryz.zeroValue63
  t51 := Tryz.underlying90
  a51 := Tryz.isAgg90
  z51 := Tryz.sizeOf90
  v51 := Tryz.zeroValue90
  t53 := Tryz.underlying93
  a53 := Tryz.isAgg93
  z53 := Tryz.sizeOf93
  v53 := Tryz.zeroValue93
  t75 := Tryz.underlying51
  a75 := Tryz.isAgg51
  z75 := Tryz.sizeOf51
  v75 := Tryz.zeroValue51
  t76 := Tryz.underlying52
  a76 := Tryz.isAgg52
  z76 := Tryz.sizeOf52
  v76 := Tryz.zeroValue52
  t85 := Tryz.underlying105
  a85 := Tryz.isAgg105
  z85 := Tryz.sizeOf105
  v85 := Tryz.zeroValue105
  t127 := Tryz.underlying96
  a127 := Tryz.isAgg96
  z127 := Tryz.sizeOf96
  v127 := Tryz.zeroValue96
  t143 := Tryz.underlying138
  a143 := Tryz.isAgg138
  z143 := Tryz.sizeOf138
  v143 := Tryz.zeroValue138
  t145 := Tryz.underlying140
  a145 := Tryz.isAgg140
  z145 := Tryz.sizeOf140
  v145 := Tryz.zeroValue140
  t167 := Tryz.underlying104
  a167 := Tryz.isAgg104
  z167 := Tryz.sizeOf104
  v167 := Tryz.zeroValue104
  t168 := Tryz.underlying107
  a168 := Tryz.isAgg107
  z168 := Tryz.sizeOf107
  v168 := Tryz.zeroValue107
  t171 := Tryz.underlying110
  a171 := Tryz.isAgg110
  z171 := Tryz.sizeOf110
  v171 := Tryz.zeroValue110
  t173 := Tryz.underlying113
  a173 := Tryz.isAgg113
  z173 := Tryz.sizeOf113
  v173 := Tryz.zeroValue113
  t175 := Tryz.underlying120
  a175 := Tryz.isAgg120
  z175 := Tryz.sizeOf120
  v175 := Tryz.zeroValue120
  t210 := Tryz.underlying124
  a210 := Tryz.isAgg124
  z210 := Tryz.sizeOf124
  v210 := Tryz.zeroValue124
  t212 := Tryz.underlying127
  a212 := Tryz.isAgg127
  z212 := Tryz.sizeOf127
  v212 := Tryz.zeroValue127
  t213 := Tryz.underlying128
  a213 := Tryz.isAgg128
  z213 := Tryz.sizeOf128
  t232 := Tryz.underlying142
  a232 := Tryz.isAgg142
  z232 := Tryz.sizeOf142
  v232 := Tryz.zeroValue142
  t233 := Tryz.underlying143
  a233 := Tryz.isAgg143
  z233 := Tryz.sizeOf143
  v233 := Tryz.zeroValue143
  g15 := by kernel_rfl
  g16 := by kernel_rfl
  g17 := by kernel_rfl
  g18 := by kernel_rfl
  g19 := by kernel_rfl
  t80 := Tryz.underlying72
  a80 := Tryz.isAgg72
  z80 := Tryz.sizeOf72
  v80 := Tryz.zeroValue72
  i0 := by kernel_rfl
  i2 := by kernel_rfl
  i3 := by kernel_rfl
  i4 := by kernel_rfl
  i5 := by kernel_rfl
  i9 := by kernel_rfl
  i20 := by kernel_rfl
  i21 := by kernel_rfl
  i37 := by kernel_rfl
  i46 := by kernel_rfl
  i51 := by kernel_rfl
  i53 := by kernel_rfl
  i75 := by kernel_rfl
  i76 := by kernel_rfl
  i80 := by kernel_rfl
  i85 := by kernel_rfl
  i127 := by kernel_rfl
  i143 := by kernel_rfl
  i145 := by kernel_rfl
  i167 := by kernel_rfl
  i168 := by kernel_rfl
  i171 := by kernel_rfl
  i173 := by kernel_rfl
  i175 := by kernel_rfl
  i210 := by kernel_rfl
  i212 := by kernel_rfl
  i232 := by kernel_rfl
  i233 := by kernel_rfl
  m15 := by kernel_rfl
  m16 := by kernel_rfl
  m17 := by kernel_rfl
  m18 := by kernel_rfl
  m19 := by kernel_rfl
  c0 := by kernel_rfl
  c2 := by kernel_rfl
  c3 := by kernel_rfl
  c4 := by kernel_rfl
  c5 := by kernel_rfl
  c9 := by kernel_rfl
  c20 := by kernel_rfl
  c21 := by kernel_rfl
  c37 := by kernel_rfl
  c46 := by kernel_rfl
  c51 := by kernel_rfl
  c53 := by kernel_rfl
  c75 := by kernel_rfl
  c76 := by kernel_rfl
  c80 := by kernel_rfl
  c85 := by kernel_rfl
  c127 := by kernel_rfl
  c143 := by kernel_rfl
  c145 := by kernel_rfl
  c167 := by kernel_rfl
  c168 := by kernel_rfl
  c171 := by kernel_rfl
  c173 := by kernel_rfl
  c175 := by kernel_rfl
  c210 := by kernel_rfl
  c212 := by kernel_rfl
  c213 := by kernel_rfl
  c232 := by kernel_rfl
  c233 := by kernel_rfl }
open Go.RowKit in /-- strconv.Atoi, AT EVERY STRING THAT SPELLS AN int ('Lib.atoiAll .. = .ok v'; of whatever length: leading zeros count): v, AND NO ERROR. The world: as it was, or with the one new row that '[]byte(..)' lays. (LAID: no walk: one application.) -/ theorem Tryz.strconv_Atoi_ok (s : ByteArray) (hmax : s.size ≤ 9223372036854775806) (v : Int) (h : Lib.atoiAll s.data.toList = .ok v) (w : World) : Calls Tryz.prog 23 #[.string s] w fun e w' => e = .returned (.tuple #[.int .i64 v, .nilIface]) ∧ (w' = w ∨ ∃ t, w' = Lib.bytesWorld w 5 t) := Any.strconv_Atoi_ok Tryz.laysC172 s hmax v h w
open Go.RowKit in theorem Tryz.strconv_Atoi_syntax_var (s : ByteArray) (hlim : s.size ≤ 281474976710656) (h : Lib.atoiAll s.data.toList = Lib.NumEnd.syntax) (tp : TypeId) (p : Value) (w : World) (hvar : w.var? Tryz.prog "strconv.ErrSyntax" = some #[.iface tp p]) : Calls Tryz.prog 23 #[.string s] w fun e w' => ∃ N, e = .returned (.tuple #[.int .i64 0, .iface 107 (.pointer (some ⟨N, 0, none⟩))]) ∧ w.heap.size ≤ N ∧ w'.heap[N]? = some (.cells #[.string ⟨#[65, 116, 111, 105]⟩, .string s, .iface tp p] 124 (0, 0)) ∧ Below w.heap.size w w' := Any.strconv_Atoi_syntax_var Tryz.laysC172 s hlim h tp p w hvar
open Go.RowKit in theorem Tryz.strconv_Atoi_range_var (s : ByteArray) (hlim : s.size ≤ 281474976710656) (h : Lib.atoiAll s.data.toList = .range) (tp : TypeId) (p : Value) (w : World) (hvar : w.var? Tryz.prog "strconv.ErrRange" = some #[.iface tp p]) : Calls Tryz.prog 23 #[.string s] w fun e w' => ∃ N, e = .returned (.tuple #[.int .i64 (Lib.atoiSat s.data.toList), .iface 107 (.pointer (some ⟨N, 0, none⟩))]) ∧ w.heap.size ≤ N ∧ w'.heap[N]? = some (.cells #[.string ⟨#[65, 116, 111, 105]⟩, .string s, .iface tp p] 124 (0, 0)) ∧ Below w.heap.size w w' := Any.strconv_Atoi_range_var Tryz.laysC172 s hlim h tp p w hvar
def Tryz.lays145_ren : Go.Shelf.Ren := ⟨fun | 145 => 20 | 220 => 46 | 219 => 66 | 217 => 83 | 225 => 84 | 224 => 85 | 267 => 86 | 266 => 98 | 314 => 99 | n => n, fun | 9 => 9 | 4 => 4 | 59 => 46 | 3 => 3 | 5 => 5 | 46 => 63 | 146 => 91 | 51 => 90 | n => n, fun | 1 => 0 | n => n⟩
theorem Tryz.lays145 : Go.Proofs.Lays.n145 Tryz.prog Tryz.lays145_ren := {
  mixed := by kernel_rfl
  f145 := Tryz.func20.trans (congrArg some (by kernel_rfl))
  f217 := Tryz.func83.trans (congrArg some (by kernel_rfl))
  f219 := Tryz.func66.trans (congrArg some (by kernel_rfl))
  f220 := Tryz.func46.trans (congrArg some (by kernel_rfl))
  f224 := Tryz.func85.trans (congrArg some (by kernel_rfl))
  f225 := Tryz.func84.trans (congrArg some (by kernel_rfl))
  f266 := Tryz.func98.trans (congrArg some (by kernel_rfl))
  f267 := Tryz.func86.trans (congrArg some (by kernel_rfl))
  f314 := Tryz.func99.trans (congrArg some (by kernel_rfl))
  t3 := Tryz.underlying3
  a3 := Tryz.isAgg3
  z3 := Tryz.sizeOf3
  v3 := Tryz.zeroValue3
  t4 := Tryz.underlying4
  a4 := Tryz.isAgg4
  z4 := Tryz.sizeOf4
  v4 := Tryz.zeroValue4
  t5 := Tryz.underlying5
  a5 := Tryz.isAgg5
  z5 := Tryz.sizeOf5
  v5 := Tryz.zeroValue5
  t9 := Tryz.underlying9
  a9 := Tryz.isAgg9
  z9 := Tryz.sizeOf9
  v9 := Tryz.zeroValue9
  t46 := Tryz.underlying63
  a46 := Tryz.isAgg63
  z46 := Tryz.sizeOf63
  v46 := Tryz.zeroValue63
  t51 := Tryz.underlying90
  a51 := Tryz.isAgg90
  z51 := Tryz.sizeOf90
  v51 := Tryz.zeroValue90
  t59 := Tryz.underlying46
  a59 := Tryz.isAgg46
  z59 := Tryz.sizeOf46
  v59 := Tryz.zeroValue46
  t146 := Tryz.underlying91
  a146 := Tryz.isAgg91
  z146 := Tryz.sizeOf91
  v146 := Tryz.zeroValue91
  g1 := by kernel_rfl }
open Go.RowKit Go.Lib in /-- strings.Cut: "Cut slices s around the first instance of sep, returning the text before and after sep. The found result reports whether sep appears in s. If sep does not appear in s, cut returns s, "", false.": IT RETURNS 'Lib.cut s sep'; the world is as it was but for the count of draws. (LAID: no walk: one application.) -/ theorem Tryz.strings_Cut (s sep : ByteArray) (m : Int) (w : World) (hs : s.size < 4294967281) (hm : w.cell? ⟨0, 0, none⟩ = some (.int .i64 m)) : Calls Tryz.prog 20 #[.string s, .string sep] w fun e w' => e = .returned (.tuple #[.string ⟨(Lib.cut s.data.toList sep.data.toList).1.toArray⟩, .string ⟨(Lib.cut s.data.toList sep.data.toList).2.1.toArray⟩, .bool (Lib.cut s.data.toList sep.data.toList).2.2]) ∧ ∃ n, w' = w.drewN n := Any.strings_Cut Tryz.lays145 s sep m w hs hm
def Tryz.lays206_ren : Go.Shelf.Ren := ⟨fun | 206 => 60 | n => n, fun | 9 => 9 | 4 => 4 | 3 => 3 | n => n, fun | n => n⟩
theorem Tryz.lays206 : Go.Proofs.Lays.n206 Tryz.prog Tryz.lays206_ren := {
  mixed := by kernel_rfl
  f206 := Tryz.func60.trans (congrArg some (by kernel_rfl))
  t3 := Tryz.underlying3
  a3 := Tryz.isAgg3
  z3 := Tryz.sizeOf3
  v3 := Tryz.zeroValue3
  t4 := Tryz.underlying4
  a4 := Tryz.isAgg4
  z4 := Tryz.sizeOf4
  v4 := Tryz.zeroValue4
  t9 := Tryz.underlying9
  a9 := Tryz.isAgg9
  z9 := Tryz.sizeOf9
  v9 := Tryz.zeroValue9 }
open Go.RowKit Go.Lib in /-- internal/stringslite.HasPrefix (what strings.HasPrefix calls). (LAID: no walk: one application.) -/ theorem Tryz.stringslite_HasPrefix (s p : ByteArray) (w : World) : Calls Tryz.prog 60 #[.string s, .string p] w fun e w' => e = .returned (.bool (Lib.hasPrefix s.data.toList p.data.toList)) ∧ w' = w := Any.stringslite_HasPrefix Tryz.lays206 s p w
def Tryz.lays100_ren : Go.Shelf.Ren := ⟨fun | 100 => 48 | 207 => 68 | n => n, fun | 9 => 9 | 4 => 4 | 3 => 3 | n => n, fun | n => n⟩
theorem Tryz.lays100 : Go.Proofs.Lays.n100 Tryz.prog Tryz.lays100_ren := {
  mixed := by kernel_rfl
  f100 := Tryz.func48.trans (congrArg some (by kernel_rfl))
  f207 := Tryz.func68.trans (congrArg some (by kernel_rfl))
  t3 := Tryz.underlying3
  a3 := Tryz.isAgg3
  z3 := Tryz.sizeOf3
  v3 := Tryz.zeroValue3
  t4 := Tryz.underlying4
  a4 := Tryz.isAgg4
  z4 := Tryz.sizeOf4
  v4 := Tryz.zeroValue4
  t9 := Tryz.underlying9
  a9 := Tryz.isAgg9
  z9 := Tryz.sizeOf9
  v9 := Tryz.zeroValue9 }
open Go.RowKit Go.Lib in /-- strings.HasSuffix: "HasSuffix reports whether the string s ends with suffix.": IT RETURNS 'Lib.hasSuffix s suffix'; the world is as it was. ('hs': no Go string is longer: a caller has it of every string that it was handed.) (LAID: no walk: one application.) -/ theorem Tryz.strings_HasSuffix (s p : ByteArray) (w : World) (hs : s.size ≤ 9223372036854775807) : Calls Tryz.prog 48 #[.string s, .string p] w fun e w' => e = .returned (.bool (Lib.hasSuffix s.data.toList p.data.toList)) ∧ w' = w := Any.strings_HasSuffix Tryz.lays100 s p w hs
def Tryz.lays105_ren : Go.Shelf.Ren := ⟨fun | 105 => 15 | 212 => 34 | 99 => 35 | 165 => 36 | 166 => 37 | 170 => 38 | 169 => 39 | 263 => 58 | 264 => 59 | 206 => 60 | 240 => 61 | 241 => 62 | 276 => 79 | 277 => 80 | n => n, fun | 9 => 9 | 3 => 3 | 4 => 4 | 20 => 20 | 0 => 0 | 46 => 63 | 109 => 64 | 5 => 5 | 72 => 70 | 76 => 52 | 51 => 90 | 146 => 91 | 53 => 93 | 148 => 94 | 70 => 67 | 37 => 68 | 75 => 51 | 127 => 96 | 164 => 115 | 80 => 72 | n => n, fun | n => n⟩
theorem Tryz.lays105 : Go.Proofs.Lays.n105 Tryz.prog Tryz.lays105_ren := {
  mixed := by kernel_rfl
  f99 := Tryz.func35.trans (congrArg some (by kernel_rfl))
  f105 := Tryz.func15.trans (congrArg some (by kernel_rfl))
  f165 := Tryz.func36.trans (congrArg some (by kernel_rfl))
  f166 := Tryz.func37.trans (congrArg some (by kernel_rfl))
  f169 := Tryz.func39.trans (congrArg some (by kernel_rfl))
  f170 := Tryz.func38.trans (congrArg some (by kernel_rfl))
  f206 := Tryz.func60.trans (congrArg some (by kernel_rfl))
  f212 := Tryz.func34.trans (congrArg some (by kernel_rfl))
  f240 := Tryz.func61.trans (congrArg some (by kernel_rfl))
  f241 := Tryz.func62.trans (congrArg some (by kernel_rfl))
  f263 := Tryz.func58.trans (congrArg some (by kernel_rfl))
  f264 := Tryz.func59.trans (congrArg some (by kernel_rfl))
  f276 := Tryz.func79.trans (congrArg some (by kernel_rfl))
  f277 := Tryz.func80.trans (congrArg some (by kernel_rfl))
  t0 := Tryz.underlying0
  a0 := Tryz.isAgg0
  z0 := Tryz.sizeOf0
  v0 := Tryz.zeroValue0
  t3 := Tryz.underlying3
  a3 := Tryz.isAgg3
  z3 := Tryz.sizeOf3
  v3 := Tryz.zeroValue3
  t4 := Tryz.underlying4
  a4 := Tryz.isAgg4
  z4 := Tryz.sizeOf4
  v4 := Tryz.zeroValue4
  t5 := Tryz.underlying5
  a5 := Tryz.isAgg5
  z5 := Tryz.sizeOf5
  v5 := Tryz.zeroValue5
  t9 := Tryz.underlying9
  a9 := Tryz.isAgg9
  z9 := Tryz.sizeOf9
  v9 := Tryz.zeroValue9
  t20 := Tryz.underlying20
  a20 := Tryz.isAgg20
  z20 := Tryz.sizeOf20
  v20 := Tryz.zeroValue20
  t37 := Tryz.underlying68
  a37 := Tryz.isAgg68
  z37 := Tryz.sizeOf68
  v37 := Tryz.zeroValue68
  t46 := Tryz.underlying63
  a46 := Tryz.isAgg63
  z46 := Tryz.sizeOf63
  v46 := Tryz.zeroValue63
  t51 := Tryz.underlying90
  a51 := Tryz.isAgg90
  z51 := Tryz.sizeOf90
  v51 := Tryz.zeroValue90
  t53 := Tryz.underlying93
  a53 := Tryz.isAgg93
  z53 := Tryz.sizeOf93
  v53 := Tryz.zeroValue93
  t70 := Tryz.underlying67
  a70 := Tryz.isAgg67
  z70 := Tryz.sizeOf67
  v70 := Tryz.zeroValue67
  t72 := Tryz.underlying70
  a72 := Tryz.isAgg70
  z72 := Tryz.sizeOf70
  v72 := Tryz.zeroValue70
  t75 := Tryz.underlying51
  a75 := Tryz.isAgg51
  z75 := Tryz.sizeOf51
  v75 := Tryz.zeroValue51
  t76 := Tryz.underlying52
  a76 := Tryz.isAgg52
  z76 := Tryz.sizeOf52
  v76 := Tryz.zeroValue52
  t109 := Tryz.underlying64
  a109 := Tryz.isAgg64
  z109 := Tryz.sizeOf64
  v109 := Tryz.zeroValue64
  t127 := Tryz.underlying96
  a127 := Tryz.isAgg96
  z127 := Tryz.sizeOf96
  v127 := Tryz.zeroValue96
  t146 := Tryz.underlying91
  a146 := Tryz.isAgg91
  z146 := Tryz.sizeOf91
  v146 := Tryz.zeroValue91
  t148 := Tryz.underlying94
  a148 := Tryz.isAgg94
  z148 := Tryz.sizeOf94
  v148 := Tryz.zeroValue94
  t164 := Tryz.underlying115
  a164 := Tryz.isAgg115
  z164 := Tryz.sizeOf115
  v164 := Tryz.zeroValue115 }
theorem Tryz.Builder_Extra_105 : Builder.Extra Tryz.prog Tryz.lays105_ren := {
  sizeBuilder := by kernel_rfl
  liesBuilder := by kernel_rfl
  t5 := Tryz.underlying5
  a5 := Tryz.isAgg5
  z5 := Tryz.sizeOf5
  v5 := Tryz.zeroValue5
  infoByte := by kernel_rfl
  cellsByte := by kernel_rfl
  sizeByte := by kernel_rfl
  neB5 := by decide }
open Go.RowKit Go.Lib in /-- **strings.Repeat: count ≥ 0, the result within one allocation: count copies of s.** (LAID: no walk: one application.) -/ theorem Tryz.strings_Repeat (s : ByteArray) (c : Nat) (w : World) (hc : c ≤ 9223372036854775807) (hlen : s.size * c ≤ 140737488355328) : Calls Tryz.prog 15 #[.string s, .int .i64 c] w fun e w' => e = .returned (.string ⟨(Lib.repeatL s.data.toList c).toArray⟩) ∧ Below w.heap.size w w' := Any.strings_Repeat Tryz.lays105 Tryz.Builder_Extra_105 s c w hc hlen
end Go.Proofs
namespace Go.Proofs.YtmjglehdckgcnaaGreatDoor.X
open Go.RowKit
/-- The decimal numeral of an int. -/
def strconv_Itoa.f (a0 : Int) : Option ByteArray := if -9223372036854775808 ≤ a0 then (if a0 ≤ 9223372036854775807 then some ⟨(Lib.itoa a0).toArray⟩ else none) else none
theorem below_grow (w : World) (q : Nat) (os : Array Obj) : Below w.heap.size w (Sort.grow (w.drewN q) os) :=
  ⟨rfl, rfl, rfl, by show w.heap.size ≤ (w.heap ++ os).size; rw [Array.size_append]; omega, fun i hi => by
    show ((w.drewN q).heap ++ os)[i]? = _
    rw [Array.getElem?_append_left (by show i < w.heap.size; omega)]
    rfl⟩
theorem strconv_Itoa.calls (a0 : Int) (r : ByteArray) (w : World) (hG : GI w) (h : strconv_Itoa.f a0 = some r) :
    Calls Tryz.prog 14 #[.int .i64 a0] w fun e w' => e = .returned (.string r) ∧ Below w.heap.size w w' := by
  unfold strconv_Itoa.f at h
  by_cases h0 : -9223372036854775808 ≤ a0
  · by_cases h1 : a0 ≤ 9223372036854775807
    · rw [if_pos h0, if_pos h1] at h
      obtain rfl := Option.some.inj h
      refine (Tryz.strconv_Itoa a0 h0 h1 w hG.1).mono ?_
      rintro e w' ⟨rfl, k, os, rfl⟩
      exact ⟨rfl, below_grow w k os⟩
    · rw [if_pos h0, if_neg h1] at h
      cases h
  · rw [if_neg h0] at h
    cases h
end Go.Proofs.YtmjglehdckgcnaaGreatDoor.X
namespace Go.Proofs.YtmjglehdckgcnaaGreatDoor.TX
open Go Go.Lib
/-- What lies between the bytes c. -/
def parts (c : UInt8) : List UInt8 → List (List UInt8)
  | [] => [[]]
  | b :: r => if b = c then [] :: parts c r else match parts c r with
    | [] => [[b]]
    | p :: q => (b :: p) :: q
/-- The first piece, the rest behind its byte c, and whether there is one. -/
def cut1 (c : UInt8) : List UInt8 → List UInt8 × List UInt8 × Bool
  | [] => ([], [], false)
  | b :: r => if b = c then ([], r, true) else (b :: (cut1 c r).1, (cut1 c r).2.1, (cut1 c r).2.2)
theorem cut1_cons (c b : UInt8) (r : List UInt8) : cut1 c (b :: r) = if b = c then ([], r, true) else (b :: (cut1 c r).1, (cut1 c r).2.1, (cut1 c r).2.2) := rfl
theorem index_nil (c : UInt8) : index [] [c] = -1 := rfl
theorem index_cons (c b : UInt8) (r : List UInt8) : index (b :: r) [c] = if b = c then 0 else if index r [c] = -1 then -1 else index r [c] + 1 := by
  have e0 : index (b :: r) [c] = if [c].isPrefixOf (b :: r) then 0 else if index r [c] == -1 then -1 else index r [c] + 1 := rfl
  rw [e0]
  by_cases h : b = c
  · subst h; simp [List.isPrefixOf]
  · have h2 : (c == b) = false := by simpa using fun e => h e.symm
    rw [if_neg h]
    simp only [List.isPrefixOf, h2, Bool.false_and, Bool.false_eq_true, if_false]
    by_cases h3 : index r [c] = -1
    · simp [h3]
    · rw [if_neg (by simpa using h3), if_neg h3]
theorem cut_eq (c : UInt8) : ∀ s : List UInt8, cut s [c] = cut1 c s
  | [] => by unfold cut; rw [index_nil]; rfl
  | b :: r => by
    have ih := cut_eq c r
    have hg := index_ge r [c]
    unfold cut at ih ⊢
    rw [cut1_cons, index_cons]
    by_cases h : b = c
    · rw [if_pos h, if_pos h]; simp
    · rw [if_neg h, if_neg h, ← ih]
      by_cases h3 : index r [c] = -1
      · rw [if_pos h3]; simp [h3]
      · rw [if_neg h3, if_pos (by omega), if_pos (by omega)]
        have e : (index r [c] + 1).toNat = (index r [c]).toNat + 1 := by omega
        rw [e, show (index r [c]).toNat + 1 + [c].length = ((index r [c]).toNat + [c].length) + 1 from by omega]
        rfl
theorem cut1_sum (c : UInt8) : ∀ s : List UInt8, (cut1 c s).2.2 = true → s = (cut1 c s).1 ++ c :: (cut1 c s).2.1
  | [], h => by simp [cut1] at h
  | b :: r, h => by
    rw [cut1_cons] at h ⊢
    by_cases e : b = c
    · rw [if_pos e]; simp [e]
    · rw [if_neg e] at h ⊢
      have := cut1_sum c r h
      simp only [List.cons_append]
      rw [← this]
theorem cut1_no (c : UInt8) : ∀ s : List UInt8, (cut1 c s).2.2 = false → (cut1 c s).1 = s ∧ (cut1 c s).2.1 = []
  | [], _ => ⟨rfl, rfl⟩
  | b :: r, h => by
    rw [cut1_cons] at h ⊢
    by_cases e : b = c
    · rw [if_pos e] at h; simp at h
    · rw [if_neg e] at h ⊢
      have := cut1_no c r h
      exact ⟨by simp [this.1], this.2⟩
def isDig (b : UInt8) : Bool := decide (48 ≤ b.toNat) && decide (b.toNat ≤ 57)
def valFrom : Nat → List UInt8 → Nat
  | a, [] => a
  | a, b :: r => valFrom (10 * a + (b.toNat - 48)) r
/-- Digits, without a needless 0 ahead. -/
def Canon (s : List UInt8) : Prop := 1 ≤ s.length ∧ ¬ (1 < s.length ∧ s.head? = some 48) ∧ s.all isDig = true
instance (s : List UInt8) : Decidable (Canon s) := by unfold Canon; infer_instance
theorem isDig_iff (b : UInt8) : isDig b = true ↔ 48 ≤ b.toNat ∧ b.toNat ≤ 57 := by simp [isDig]
theorem valFrom_snoc : ∀ (s : List UInt8) (a : Nat) (b : UInt8), valFrom a (s ++ [b]) = 10 * valFrom a s + (b.toNat - 48)
  | [], a, b => rfl
  | c :: r, a, b => valFrom_snoc r _ b
theorem valFrom_lt : ∀ (s : List UInt8) (a : Nat), s.all isDig = true → valFrom a s + 1 ≤ (a + 1) * 10 ^ s.length
  | [], a, _ => Nat.le_of_eq (by rw [List.length_nil, Nat.pow_zero, Nat.mul_one]; rfl)
  | b :: r, a, h => by
    simp only [List.all_cons, Bool.and_eq_true] at h
    have hb := (isDig_iff b).1 h.1
    have ih := valFrom_lt r (10 * a + (b.toNat - 48)) h.2
    refine Nat.le_trans ih ?_
    rw [List.length_cons, Nat.pow_succ]
    generalize 10 ^ r.length = p
    have e : 10 * a + (b.toNat - 48) + 1 ≤ (a + 1) * 10 := by omega
    have := Nat.mul_le_mul_right p e
    rw [Nat.mul_assoc, Nat.mul_comm 10 p] at this
    exact this
theorem valFrom_ge : ∀ (s : List UInt8) (a : Nat), a * 10 ^ s.length ≤ valFrom a s
  | [], a => Nat.le_of_eq (by rw [List.length_nil, Nat.pow_zero, Nat.mul_one]; rfl)
  | b :: r, a => by
    refine Nat.le_trans ?_ (valFrom_ge r (10 * a + (b.toNat - 48)))
    rw [List.length_cons, Nat.pow_succ]
    generalize 10 ^ r.length = p
    have e : a * 10 ≤ 10 * a + (b.toNat - 48) := by omega
    have := Nat.mul_le_mul_right p e
    rw [Nat.mul_assoc, Nat.mul_comm 10 p] at this
    exact this
theorem parse_ok : ∀ (s : List UInt8) (a : Nat), s.all isDig = true → (a + 1) * 10 ^ s.length ≤ 18446744073709551616 → parseUint10 a s = .ok (valFrom a s)
  | [], a, _, _ => rfl
  | b :: r, a, h, hl => by
    simp only [List.all_cons, Bool.and_eq_true] at h
    have hb := (isDig_iff b).1 h.1
    have e : (10 * a + 10) * 10 ^ r.length ≤ 18446744073709551616 := by
      rw [List.length_cons, Nat.pow_succ, Nat.mul_comm (10 ^ r.length) 10, ← Nat.mul_assoc] at hl
      have : (a + 1) * 10 = 10 * a + 10 := by omega
      rw [this] at hl; exact hl
    have hp : 1 ≤ 10 ^ r.length := Nat.one_le_pow _ _ (by decide)
    have e2 : 10 * a + 10 ≤ 18446744073709551616 := Nat.le_trans (Nat.le_mul_of_pos_right _ hp) e
    unfold parseUint10
    rw [if_pos hb, if_neg (by omega), if_neg (by omega)]
    have ec : a * 10 + (b.toNat - 48) = 10 * a + (b.toNat - 48) := by omega
    rw [ec, parse_ok r _ h.2 (Nat.le_trans (Nat.mul_le_mul_right _ (by omega)) e)]
    rfl
theorem digits_small {u : Nat} (h : u < 10) : decDigits u = [UInt8.ofNat (48 + u)] := by rw [decDigits, dif_pos h]
theorem digits_big {u : Nat} (h : ¬ u < 10) : decDigits u = decDigits (u / 10) ++ [UInt8.ofNat (48 + u % 10)] := by rw [decDigits, dif_neg h]
theorem dig_nat {d : Nat} (h : d < 10) : (UInt8.ofNat (48 + d)).toNat = 48 + d := by
  rw [UInt8.toNat_ofNat']; omega
theorem digits_len (u : Nat) : 1 ≤ (decDigits u).length := by
  by_cases h : u < 10
  · rw [digits_small h]; simp
  · rw [digits_big h]; simp
theorem digits_all (u : Nat) : (decDigits u).all isDig = true := by
  induction u using Nat.strongRecOn with
  | _ u ih =>
    by_cases h : u < 10
    · rw [digits_small h]
      simp only [List.all_cons, List.all_nil, Bool.and_true]
      rw [isDig_iff, dig_nat h]; omega
    · rw [digits_big h, List.all_append, ih (u / 10) (by omega)]
      simp only [List.all_cons, List.all_nil, Bool.and_true, Bool.true_and]
      rw [isDig_iff, dig_nat (by omega)]; omega
theorem digits_val (u : Nat) : valFrom 0 (decDigits u) = u := by
  induction u using Nat.strongRecOn with
  | _ u ih =>
    by_cases h : u < 10
    · rw [digits_small h]
      show 10 * 0 + ((UInt8.ofNat (48 + u)).toNat - 48) = u
      rw [dig_nat h]; omega
    · rw [digits_big h, valFrom_snoc, ih (u / 10) (by omega), dig_nat (by omega)]; omega
theorem digits_head (u : Nat) (h1 : 1 ≤ u) : ∃ b r, decDigits u = b :: r ∧ b ≠ 48 := by
  induction u using Nat.strongRecOn with
  | _ u ih =>
    by_cases h : u < 10
    · refine ⟨_, _, digits_small h, fun e => ?_⟩
      have := congrArg UInt8.toNat e
      rw [dig_nat h] at this
      have h48 : (48 : UInt8).toNat = 48 := rfl
      omega
    · obtain ⟨b, r, e, hb⟩ := ih (u / 10) (by omega) (by omega)
      exact ⟨b, _, by rw [digits_big h, e]; rfl, hb⟩
theorem digits_canon (u : Nat) : Canon (decDigits u) := by
  refine ⟨digits_len u, fun h => ?_, digits_all u⟩
  by_cases h0 : u < 10
  · rw [digits_small h0] at h; simp at h
  · obtain ⟨b, r, e, hb⟩ := digits_head u (by omega)
    rw [e] at h
    exact hb (by simpa using h.2)
theorem canon_val (s : List UInt8) (h : Canon s) (h1 : 1 < s.length) : 10 ^ (s.length - 1) ≤ valFrom 0 s := by
  cases s with
  | nil => simp at h1
  | cons b r =>
    obtain ⟨_, h2, h3⟩ := h
    simp only [List.all_cons, Bool.and_eq_true] at h3
    have hb := (isDig_iff b).1 h3.1
    have hb2 : b ≠ 48 := fun e => h2 ⟨h1, by simp [e]⟩
    have hb3 : b.toNat ≠ 48 := fun e => hb2 (UInt8.toNat_inj.1 (by rw [e]; rfl))
    have := valFrom_ge r (10 * 0 + (b.toNat - 48))
    refine Nat.le_trans ?_ this
    simp only [List.length_cons, Nat.add_sub_cancel]
    exact Nat.le_mul_of_pos_left _ (by omega)
/-- A numeral is that of its value. -/
theorem canon_digits : ∀ (n : Nat) (s : List UInt8), s.length = n → Canon s → decDigits (valFrom 0 s) = s
  | 0, s, hn, h => by have := h.1; omega
  | n + 1, s, hn, h => by
    have hne : s ≠ [] := fun e => by rw [e] at hn; simp at hn
    obtain ⟨t, b, rfl⟩ : ∃ t b, s = t ++ [b] := ⟨s.dropLast, s.getLast hne, (List.dropLast_concat_getLast hne).symm⟩
    obtain ⟨h1, h2, h3⟩ := h
    rw [List.all_append] at h3
    simp only [List.all_cons, List.all_nil, Bool.and_true, Bool.and_eq_true] at h3
    have hb := (isDig_iff b).1 h3.2
    rw [valFrom_snoc]
    have eb : UInt8.ofNat (48 + (b.toNat - 48)) = b := UInt8.toNat_inj.1 (by rw [dig_nat (by omega)]; omega)
    cases t with
    | nil =>
      show decDigits (10 * 0 + (b.toNat - 48)) = [b]
      rw [digits_small (by omega), show 48 + (10 * 0 + (b.toNat - 48)) = 48 + (b.toNat - 48) from by omega, eb]
    | cons c t =>
      have hc : Canon (c :: t) := ⟨by simp, fun e => h2 ⟨by simp, by simpa using e.2⟩, h3.1⟩
      have ih := canon_digits n (c :: t) (by rw [List.length_append] at hn; simpa using hn) hc
      have hv : 1 ≤ valFrom 0 (c :: t) := by
        have h3' := h3.1
        simp only [List.all_cons, Bool.and_eq_true] at h3'
        have hc1 := (isDig_iff c).1 h3'.1
        have hc2 : c ≠ 48 := fun e => h2 ⟨by simp, by simp [e]⟩
        have hc3 : c.toNat ≠ 48 := fun e => hc2 (UInt8.toNat_inj.1 (by rw [e]; rfl))
        have := valFrom_ge t (10 * 0 + (c.toNat - 48))
        have hp : 1 ≤ 10 ^ t.length := Nat.one_le_pow _ _ (by decide)
        refine Nat.le_trans ?_ this
        exact Nat.le_trans hp (Nat.le_mul_of_pos_left _ (by omega))
      rw [digits_big (by omega), show (10 * valFrom 0 (c :: t) + (b.toNat - 48)) / 10 = valFrom 0 (c :: t) from by omega, ih,
        show (10 * valFrom 0 (c :: t) + (b.toNat - 48)) % 10 = b.toNat - 48 from by omega, eb]
theorem digits_length_le {u : Nat} : ∀ {n : Nat}, u < 10 ^ n → 1 ≤ n → (decDigits u).length ≤ n := by
  intro n h hn
  have hc := digits_canon u
  rcases Nat.lt_or_ge n (decDigits u).length with hlt | hge
  · have := canon_val _ hc (by omega)
    rw [digits_val] at this
    have h2 : 10 ^ n ≤ 10 ^ ((decDigits u).length - 1) := Nat.pow_le_pow_right (by decide) (by omega)
    omega
  · exact hge
end Go.Proofs.YtmjglehdckgcnaaGreatDoor.TX
namespace Go.Proofs.YtmjglehdckgcnaaGreatDoor.X
open Go Go.RowKit Go.Proofs.YtmjglehdckgcnaaGreatDoor.TX Go.Proofs.YtmjglehdckgcnaaGreatDoorW.PrintWords Go.Proofs.YtmjglehdckgcnaaGreatDoorW.PrintLast Go.Proofs.YtmjglehdckgcnaaGreatDoorW.PrintMore
theorem below_drawn (w : World) (n : Nat) : Below w.heap.size w (w.drewN n) := ⟨rfl, rfl, rfl, Nat.le_refl _, fun _ _ => rfl⟩
/-- The first piece, the rest, and whether the byte stands in it. -/
def strings_Cut.f (a0 a1 : ByteArray) : Option (ByteArray × ByteArray × Bool) := if a0.size < 4294967281 then some (⟨(Lib.cut a0.data.toList a1.data.toList).1.toArray⟩, ⟨(Lib.cut a0.data.toList a1.data.toList).2.1.toArray⟩, (Lib.cut a0.data.toList a1.data.toList).2.2) else none
theorem strings_Cut.calls (a0 a1 r1 r2 : ByteArray) (r3 : Bool) (w : World) (hG : GI w) (h : strings_Cut.f a0 a1 = some (r1, r2, r3)) :
    Calls Tryz.prog 20 #[.string a0, .string a1] w fun e w' => e = .returned (.tuple #[.string r1, .string r2, .bool r3]) ∧ Below w.heap.size w w' := by
  unfold strings_Cut.f at h
  by_cases hs : a0.size < 4294967281
  · rw [if_pos hs] at h
    obtain ⟨m, hm⟩ := hG.max
    simp only [Option.some.injEq, Prod.mk.injEq] at h
    obtain ⟨rfl, rfl, rfl⟩ := h
    refine (Tryz.strings_Cut a0 a1 m w hs hm).mono ?_
    rintro e w' ⟨rfl, n, rfl⟩
    exact ⟨rfl, below_drawn w n⟩
  · rw [if_neg hs] at h; cases h
/-- The number of a numeral, and whether there is an error. -/
def strconv_Atoi.f (a0 : ByteArray) : Option (Int × Option Int) := if a0.size ≤ 281474976710656 then (match Lib.atoiAll a0.data.toList with
  | .ok v => some (v, none)
  | .range => some (Lib.atoiSat a0.data.toList, some 0)
  | _ => some (0, some 0)) else none
theorem strconv_Atoi.oks (a0 : ByteArray) (r1 : Int) (w : World) (hG : GI w) (h : strconv_Atoi.f a0 = some (r1, none)) :
    Calls Tryz.prog 23 #[.string a0] w fun e w' => e = .returned (.tuple #[.int .i64 r1, .nilIface]) ∧ Below w.heap.size w w' := by
  unfold strconv_Atoi.f at h
  by_cases hs : a0.size ≤ 281474976710656
  · rw [if_pos hs] at h
    cases ha : Lib.atoiAll a0.data.toList with
    | ok v =>
      rw [ha] at h
      simp only [Option.some.injEq, Prod.mk.injEq, and_true] at h
      subst h
      refine (Tryz.strconv_Atoi_ok a0 (by omega) v ha w).mono ?_
      rintro e w' ⟨rfl, hw⟩
      refine ⟨rfl, ?_⟩
      rcases hw with rfl | ⟨t, rfl⟩
      · exact Below.refl _ _
      · exact Joins.below_bytesWorld _ w _ t (Nat.le_refl _)
    | range => rw [ha] at h; simp at h
    | _ => rw [ha] at h; simp at h
  · rw [if_neg hs] at h; cases h
theorem strconv_Atoi.fails (a0 : ByteArray) (r1 : Int) (q : Int) (w : World) (hG : GI w) (h : strconv_Atoi.f a0 = some (r1, some q)) :
    Calls Tryz.prog 23 #[.string a0] w fun e w' => ∃ b : Nat, e = .returned (.tuple #[.int .i64 r1, .iface 107 (.pointer (some ⟨b, 0, none⟩))]) ∧ Below w.heap.size w w' := by
  unfold strconv_Atoi.f at h
  by_cases hs : a0.size ≤ 281474976710656
  · rw [if_pos hs] at h
    obtain ⟨_, ⟨tp, p, h1⟩, ⟨tp2, p2, h2⟩, _⟩ := hG
    cases ha : Lib.atoiAll a0.data.toList with
    | ok v => rw [ha] at h; simp at h
    | range =>
      rw [ha] at h
      simp only [Option.some.injEq, Prod.mk.injEq] at h
      obtain ⟨rfl, _⟩ := h
      refine (Tryz.strconv_Atoi_range_var a0 hs ha tp2 p2 w h2).mono ?_
      rintro e w' ⟨N, rfl, _, _, hb⟩
      exact ⟨N, rfl, hb⟩
    | _ =>
      rw [ha] at h
      simp only [Option.some.injEq, Prod.mk.injEq] at h
      obtain ⟨rfl, _⟩ := h
      refine (Tryz.strconv_Atoi_syntax_var a0 hs ha tp p w h1).mono ?_
      rintro e w' ⟨N, rfl, _, _, hb⟩
      exact ⟨N, rfl, hb⟩
  · rw [if_neg hs] at h; cases h
end Go.Proofs.YtmjglehdckgcnaaGreatDoor.X
namespace Go.Proofs.YtmjglehdckgcnaaGreatDoor.X
open Go Go.RowKit Go.Lib Go.Proofs Go.Shelf
def strings_Trim.f (a0 a1 : ByteArray) : Option ByteArray := if a0.size < 4294967281 ∧ a1.size < 4294967281 ∧ a1.data.toList.all (fun b => decide (b.toNat < 128)) = true then some ⟨(Lib.trimS a0.data.toList a1.data.toList).toArray⟩ else none
theorem strings_Trim.calls (a0 a1 r : ByteArray) (w : World) (h : strings_Trim.f a0 a1 = some r) : Calls Tryz.prog 49 #[.string a0, .string a1] w fun e w' => e = .returned (.string r) ∧ Below w.heap.size w w' := by
  unfold strings_Trim.f at h
  by_cases hs : a0.size < 4294967281 ∧ a1.size < 4294967281 ∧ a1.data.toList.all (fun b => decide (b.toNat < 128)) = true
  · rw [if_pos hs] at h
    obtain rfl := Option.some.inj h
    exact Any.strings_Trim_laid Tryz.lays160 (by kernel_rfl) a0 a1 w (by omega) hs.2.1 (ascii_of_all hs.2.2)
  · rw [if_neg hs] at h; cases h
def strings_TrimLeft.f (a0 a1 : ByteArray) : Option ByteArray := if a0.size < 4294967281 ∧ a1.size < 4294967281 ∧ a1.data.toList.all (fun b => decide (b.toNat < 128)) = true then some ⟨(Lib.trimLeftS a0.data.toList a1.data.toList).toArray⟩ else none
theorem strings_TrimLeft.calls (a0 a1 r : ByteArray) (w : World) (h : strings_TrimLeft.f a0 a1 = some r) : Calls Tryz.prog 22 #[.string a0, .string a1] w fun e w' => e = .returned (.string r) ∧ Below w.heap.size w w' := by
  unfold strings_TrimLeft.f at h
  by_cases hs : a0.size < 4294967281 ∧ a1.size < 4294967281 ∧ a1.data.toList.all (fun b => decide (b.toNat < 128)) = true
  · rw [if_pos hs] at h
    obtain rfl := Option.some.inj h
    exact Any.strings_TrimLeft_laid Tryz.lays161 (by kernel_rfl) a0 a1 w hs.2.1 (ascii_of_all hs.2.2)
  · rw [if_neg hs] at h; cases h
def strings_TrimRight.f (a0 a1 : ByteArray) : Option ByteArray := if a0.size < 4294967281 ∧ a1.size < 4294967281 ∧ a1.data.toList.all (fun b => decide (b.toNat < 128)) = true then some ⟨(Lib.trimRightS a0.data.toList a1.data.toList).toArray⟩ else none
theorem strings_TrimRight.calls (a0 a1 r : ByteArray) (w : World) (h : strings_TrimRight.f a0 a1 = some r) : Calls Tryz.prog 16 #[.string a0, .string a1] w fun e w' => e = .returned (.string r) ∧ Below w.heap.size w w' := by
  unfold strings_TrimRight.f at h
  by_cases hs : a0.size < 4294967281 ∧ a1.size < 4294967281 ∧ a1.data.toList.all (fun b => decide (b.toNat < 128)) = true
  · rw [if_pos hs] at h
    obtain rfl := Option.some.inj h
    exact Any.strings_TrimRight_laid Tryz.lays162 (by kernel_rfl) a0 a1 w (by omega) hs.2.1 (ascii_of_all hs.2.2)
  · rw [if_neg hs] at h; cases h
end Go.Proofs.YtmjglehdckgcnaaGreatDoor.X
namespace Go.Proofs.YtmjglehdckgcnaaGreatDoor.TX
open Go Go.Lib
/-- The last z digits of a number. -/
def fixedD : Nat → Nat → List UInt8
  | 0, _ => []
  | z + 1, r => fixedD z (r / 10) ++ [UInt8.ofNat (48 + r % 10)]
theorem fixed_len : ∀ z r : Nat, (fixedD z r).length = z
  | 0, _ => rfl
  | z + 1, r => by simp [fixedD, fixed_len z]
theorem fixed_cons : ∀ z r : Nat, fixedD (z + 1) r = UInt8.ofNat (48 + r / 10 ^ z % 10) :: fixedD z r
  | 0, r => by simp [fixedD]
  | z + 1, r => by
    have e := fixed_cons z (r / 10)
    rw [fixedD, e, fixedD, List.cons_append, Nat.div_div_eq_div_mul]
    congr 3
    rw [Nat.pow_succ, Nat.mul_comm]
theorem fixed_mod : ∀ z r : Nat, fixedD z (r % 10 ^ z) = fixedD z r
  | 0, _ => rfl
  | z + 1, r => by
    have e1 : r % 10 ^ (z + 1) / 10 = r / 10 % 10 ^ z := by rw [Nat.pow_succ, Nat.mul_comm, Nat.mod_mul_right_div_self]
    have e2 : r % 10 ^ (z + 1) % 10 = r % 10 := by rw [Nat.pow_succ, Nat.mul_comm, Nat.mod_mul_right_mod]
    show fixedD z (r % 10 ^ (z + 1) / 10) ++ [UInt8.ofNat (48 + r % 10 ^ (z + 1) % 10)] = fixedD z (r / 10) ++ [UInt8.ofNat (48 + r % 10)]
    rw [e1, e2, fixed_mod z]
theorem pad_fixed : ∀ z n : Nat, List.replicate (z + 1 - (decDigits n).length) 48 ++ decDigits n = decDigits (n / 10 ^ z) ++ fixedD z n
  | 0, n => by
    have := digits_len n
    rw [show 0 + 1 - (decDigits n).length = 0 by omega]
    simp [fixedD]
  | z + 1, n => by
    have e := pad_fixed z (n / 10)
    rw [fixedD, ← List.append_assoc, Nat.pow_succ, Nat.mul_comm, ← Nat.div_div_eq_div_mul, ← e]
    by_cases h : n < 10
    · rw [Nat.div_eq_of_lt h, digits_small (by omega : (0 : Nat) < 10), digits_small h, Nat.mod_eq_of_lt h]
      rw [show z + 1 + 1 - [UInt8.ofNat (48 + n)].length = (z + 1) by simp, show z + 1 - [UInt8.ofNat (48 + 0)].length = z by simp, List.replicate_succ']
      rfl
    · rw [digits_big h, List.length_append, List.length_singleton, show z + 1 + 1 - ((decDigits (n / 10)).length + 1) = z + 1 - (decDigits (n / 10)).length by omega, List.append_assoc]
/-- The places of a rest, without zeros at the end. -/
def restD : Nat → Nat → List UInt8
  | 0, _ => []
  | z + 1, r => if r = 0 then [] else decDigits (r / 10 ^ z) ++ restD z (r % 10 ^ z)
theorem rest_zero : ∀ z, restD z 0 = []
  | 0 => rfl
  | _ + 1 => by rw [restD, if_pos rfl]
theorem rest_len : ∀ z r : Nat, r < 10 ^ z → (restD z r).length ≤ z
  | 0, _, _ => by simp [restD]
  | z + 1, r, h => by
    rw [restD]
    split
    · simp
    · rw [List.length_append, digits_small (by rw [Nat.div_lt_iff_lt_mul (Nat.pow_pos (by omega)), Nat.mul_comm, ← Nat.pow_succ]; exact h)]
      have := rest_len z (r % 10 ^ z) (Nat.mod_lt _ (Nat.pow_pos (by omega)))
      simp only [List.length_singleton]
      omega
/-- A tail of zeros is left out. -/
def trimZ (l : List UInt8) : List UInt8 := trimRightS l [48]
theorem trimZ_zeros (n : Nat) : trimZ (List.replicate n 48) = [] := by
  unfold trimZ trimRightS
  rw [List.reverse_replicate]
  induction n with
  | zero => rfl
  | succ n ih => rw [List.replicate_succ, List.dropWhile_cons, if_pos (by simp)]; exact ih
theorem trimZ_app (a b : List UInt8) : trimZ (a ++ b) = if trimZ b = [] then trimZ a else a ++ trimZ b := by
  unfold trimZ trimRightS
  rw [List.reverse_append, List.dropWhile_append]
  by_cases h : (List.dropWhile (fun x => List.contains [48] x) b.reverse).isEmpty = true
  · rw [if_pos h, if_pos (by rw [List.isEmpty_iff.1 h]; rfl)]
  · rw [if_neg h, if_neg (fun e => h (List.isEmpty_iff.2 (List.reverse_eq_nil_iff.1 e))), List.reverse_append, List.reverse_reverse]
theorem trimZ_last (a : List UInt8) (b : UInt8) (h : b ≠ 48) : trimZ (a ++ [b]) = a ++ [b] := by
  have e : trimZ [b] = [b] := by
    unfold trimZ trimRightS
    simp [List.dropWhile_cons, h]
  rw [trimZ_app, e, if_neg (by simp)]
theorem trimZ_add (a : List UInt8) (n : Nat) : trimZ (a ++ List.replicate n 48) = trimZ a := by
  rw [trimZ_app, trimZ_zeros, if_pos rfl]
theorem trimZ_parts : ∀ l : List UInt8, ∃ n, l = trimZ l ++ List.replicate n 48 := by
  intro l
  have h : ∀ m (l : List UInt8), l.length = m → ∃ n, l = trimZ l ++ List.replicate n 48 := by
    intro m
    induction m with
    | zero => intro l hl; rw [List.length_eq_zero_iff.1 hl]; exact ⟨0, rfl⟩
    | succ m ih =>
      intro l hl
      have hne : l ≠ [] := by intro e; rw [e] at hl; simp at hl
      obtain ⟨a, b, rfl⟩ : ∃ a b, l = a ++ [b] := ⟨_, _, (List.dropLast_concat_getLast hne).symm⟩
      by_cases c : b = 48
      · subst c
        obtain ⟨n, hn⟩ := ih a (by simpa using hl)
        refine ⟨n + 1, ?_⟩
        rw [show trimZ (a ++ [48]) = trimZ a from trimZ_add a 1, List.replicate_succ', ← List.append_assoc, ← hn]
      · exact ⟨0, by rw [trimZ_last a b c]; simp⟩
  exact h _ l rfl
theorem rest_eq : ∀ z r : Nat, r < 10 ^ z → trimZ (fixedD z r) = restD z r
  | 0, _, _ => rfl
  | z + 1, r, h => by
    have hd : r / 10 ^ z < 10 := by rw [Nat.div_lt_iff_lt_mul (Nat.pow_pos (by omega)), Nat.mul_comm, ← Nat.pow_succ]; exact h
    rw [fixed_cons, restD, show ∀ x (l : List UInt8), x :: l = [x] ++ l from fun _ _ => rfl, trimZ_app, ← fixed_mod, rest_eq z (r % 10 ^ z) (Nat.mod_lt _ (Nat.pow_pos (by omega))), digits_small hd, Nat.mod_eq_of_lt hd]
    by_cases c : r = 0
    · subst c
      rw [Nat.zero_mod, rest_zero, if_pos rfl, if_pos rfl, Nat.zero_div]
      exact trimZ_zeros 1
    · rw [if_neg c]
      by_cases e : restD z (r % 10 ^ z) = []
      · rw [if_pos e, e, List.append_nil]
        have hq : r / 10 ^ z ≠ 0 := by
          intro q
          have hr : r < 10 ^ z := by
            rcases Nat.lt_or_ge r (10 ^ z) with g | g
            · exact g
            · exact absurd (Nat.div_pos g (Nat.pow_pos (by omega))) (by omega)
          rw [Nat.mod_eq_of_lt hr] at e
          cases z with
          | zero => simp at hr; exact c hr
          | succ z =>
            rw [restD, if_neg c] at e
            have := digits_len (r / 10 ^ z)
            rw [(List.append_eq_nil_iff.1 e).1] at this
            simp at this
        exact trimZ_last [] _ (by
          intro q
          have q2 := congrArg UInt8.toNat q
          rw [dig_nat hd] at q2
          exact hq (by simpa using q2))
      · rw [if_neg e]
theorem rest_last {z r : Nat} (h : r < 10 ^ z) (c : r ≠ 0) : ∃ a b, restD z r = a ++ [b] ∧ b ≠ 48 := by
  have hne : restD z r ≠ [] := by
    cases z with
    | zero => simp at h; exact absurd h c
    | succ z =>
      rw [restD, if_neg c]
      intro e
      have := digits_len (r / 10 ^ z)
      rw [(List.append_eq_nil_iff.1 e).1] at this
      simp at this
  refine ⟨_, _, (List.dropLast_concat_getLast hne).symm, fun e => ?_⟩
  have e1 : trimZ (restD z r) = restD z r := by
    rw [← rest_eq z r h]
    obtain ⟨n, hn⟩ := trimZ_parts (fixedD z r)
    have : ∀ l, trimZ (trimZ l) = trimZ l := by
      intro l
      obtain ⟨n, hn⟩ := trimZ_parts l
      conv => rhs; rw [hn]
      rw [trimZ_add]
    exact this _
  have e2 := (List.dropLast_concat_getLast hne).symm
  rw [e] at e2
  rw [e2, show trimZ ((restD z r).dropLast ++ [48]) = trimZ (restD z r).dropLast from trimZ_add _ 1] at e1
  obtain ⟨n, hn⟩ := trimZ_parts (restD z r).dropLast
  have := congrArg List.length e1
  have h3 := congrArg List.length hn
  simp only [List.length_append, List.length_replicate] at h3
  simp at this h3
  omega
/-- Digits in two parts. -/
theorem val_app : ∀ (a b : List UInt8) (n : Nat), valFrom n (a ++ b) = valFrom n a * 10 ^ b.length + valFrom 0 b := by
  intro a b
  have h : ∀ (m : Nat) (b a : List UInt8) (n : Nat), b.length = m → valFrom n (a ++ b) = valFrom n a * 10 ^ b.length + valFrom 0 b := by
    intro m
    induction m with
    | zero =>
      intro b a n hb
      obtain rfl := List.length_eq_zero_iff.1 hb
      show valFrom n (a ++ []) = valFrom n a * 1 + 0
      rw [List.append_nil, Nat.mul_one, Nat.add_zero]
    | succ m ih =>
      intro b a n hb
      have hne : b ≠ [] := by intro e; rw [e] at hb; simp at hb
      obtain ⟨c, d, rfl⟩ : ∃ c d, b = c ++ [d] := ⟨_, _, (List.dropLast_concat_getLast hne).symm⟩
      have e1 := ih c a n (by simpa using hb)
      have e2 : valFrom n (a ++ (c ++ [d])) = 10 * valFrom n (a ++ c) + (d.toNat - 48) := by rw [← List.append_assoc, valFrom_snoc]
      have e3 : (c ++ [d]).length = c.length + 1 := by simp
      rw [e2, e1, valFrom_snoc, e3, Nat.pow_succ, Nat.mul_add, ← Nat.add_assoc]
      congr 2
      rw [Nat.mul_comm, Nat.mul_assoc]
  exact fun n => h _ b a n rfl
theorem fixed_of : ∀ (z : Nat) (l : List UInt8), l.length = z → l.all isDig = true → fixedD z (valFrom 0 l) = l
  | 0, l, hl, _ => by rw [List.length_eq_zero_iff.1 hl]; rfl
  | z + 1, l, hl, hd => by
    have hne : l ≠ [] := by intro e; rw [e] at hl; simp at hl
    obtain ⟨c, d, rfl⟩ : ∃ c d, l = c ++ [d] := ⟨_, _, (List.dropLast_concat_getLast hne).symm⟩
    rw [List.all_append, Bool.and_eq_true] at hd
    have h2 := (isDig_iff d).1 (by simpa using hd.2)
    rw [fixedD, valFrom_snoc, show (10 * valFrom 0 c + (d.toNat - 48)) / 10 = valFrom 0 c by omega, fixed_of z c (by simpa using hl) hd.1, show (10 * valFrom 0 c + (d.toNat - 48)) % 10 = d.toNat - 48 by omega]
    congr 2
    have : 48 + (d.toNat - 48) = d.toNat := by omega
    rw [this]
    exact UInt8.ofNat_toNat
end Go.Proofs.YtmjglehdckgcnaaGreatDoor.TX
