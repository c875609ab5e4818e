/-
A part of what these laws rest on: contracts of the functions that they reach, and plain lemmas.
-/
import Derived.Test.YtmdfnambaedllaaDoorProg
import Derived.ChangeArms
import Derived.DataReads
import Derived.Lib.LaidTab
import Derived.Lib.SmallJoins
import Derived.Carry
import Derived.Test.YtmdfnambaedllaaDoorRows
import Derived.Lib.ItoaNum
import Derived.LaidLaws
import Derived.Shelf.Vars
import Derived.Test.YtmdfnambaedllaaDoorCorrectTextsA
set_option linter.unusedVariables false
set_option linter.unusedSimpArgs false
namespace Go.Proofs.YtmdfnambaedllaaDoor.Pr
open Go.RowKit Go.Proofs.YtmdfnambaedllaaDoorW.PrintWords Go.Proofs.YtmdfnambaedllaaDoorW.PrintLast Go.Proofs.YtmdfnambaedllaaDoorW.PrintMore
attribute [local go_sem] kJ kH zAS zAR uF uE kI kG   -- for this text's walks alone
set_option linter.unusedVariables false
set_option linter.unusedSimpArgs false
def errW : Option Int → Value
 | none => .nilIface
 | some c => .iface 0 (.int .i64 c)
theorem zI : errW none = .nilIface := rfl
theorem zH (c : Int) : errW (some c) = .iface 0 (.int .i64 c) := rfl
theorem zQR : (Tryd.prog.info? 3).map (fun i => (i.zero, i.size, i.bytes)) = some (some (.int .i64 0), 1, 8) := by kernel_rfl
theorem zFJ : (Tryd.prog.info? 9).map (fun i => (i.zero, i.size, i.bytes)) = some (some (.string ⟨#[]⟩), 1, 16) := by kernel_rfl
theorem info22 : (Tryd.prog.info? 22).map (fun i => (i.zero, i.size, i.bytes)) = some (some (.slice none 0 0), 1, 24) := by kernel_rfl
def zW (xs : List (List Int)) (i : Int) : (List Int) := xs.getD i.toNat ([] : List Int)
theorem kQ {w : World} {A : Option Addr} {n : Nat} {xs : List (List Int)} (h : Kd.C (Kd.slice 3 (Kd.int .i64)) w A n xs) (i : Int) (h0 : 0 ≤ i) (h1 : i < n) : ∃ ad A0 c0, A = some ad ∧ w.cell? (ad.add i.toNat) = some (.slice A0 (zW xs i).length c0) ∧ (zW xs i).length ≤ c0 ∧ (Kd.int .i64).C w A0 (zW xs i).length (zW xs i) := by
 obtain ⟨ad, c, e, _, hK, hc0⟩ := Kd.C_get h ([] : List Int) i h0 h1
 have hc : ∀ j u, c[j]? = some u → w.cell? (ad.add (i.toNat * 1 + j)) = some u := hc0
 obtain ⟨A0, c0, rfl, l0, g0⟩ := hK
 exact ⟨ad, A0, c0, e, by have hq := hc 0 _ rfl; rwa [Nat.mul_one, Nat.add_zero] at hq, l0, g0⟩
structure S25 where
 f0 : (List Int)
 f1 : (List Int)
 f2 : (List (List Int))
def k25 : Kd S25 := Kd.iso (Kd.pair (Kd.slice 3 (Kd.int .i64)) (Kd.pair (Kd.slice 3 (Kd.int .i64)) (Kd.slice 22 (Kd.slice 3 (Kd.int .i64))))) (fun x : S25 => (x.f0, x.f1, x.f2))
theorem k25_open {w : World} {x : S25} {cs : List Value} (h : k25.K w x cs) : ∃ A0 c0 A1 c1 A2 c2, cs = [.slice A0 x.f0.length c0, .slice A1 x.f1.length c1, .slice A2 x.f2.length c2] ∧ x.f0.length ≤ c0 ∧ (Kd.int .i64).C w A0 x.f0.length x.f0 ∧ x.f1.length ≤ c1 ∧ (Kd.int .i64).C w A1 x.f1.length x.f1 ∧ x.f2.length ≤ c2 ∧ (Kd.slice 3 (Kd.int .i64)).C w A2 x.f2.length x.f2 := by
 obtain ⟨_, _, rfl, ⟨A0, c0, rfl, l0, g0⟩, ⟨_, _, rfl, ⟨A1, c1, rfl, l1, g1⟩, ⟨A2, c2, rfl, l2, g2⟩⟩⟩ := h
 exact ⟨A0, c0, A1, c1, A2, c2, rfl, l0, g0, l1, g1, l2, g2⟩
theorem k25_mk (w : World) (x : S25) {A0 : Option Addr} {c0 : Nat} (l0 : x.f0.length ≤ c0) (g0 : (Kd.int .i64).C w A0 x.f0.length x.f0) {A1 : Option Addr} {c1 : Nat} (l1 : x.f1.length ≤ c1) (g1 : (Kd.int .i64).C w A1 x.f1.length x.f1) {A2 : Option Addr} {c2 : Nat} (l2 : x.f2.length ≤ c2) (g2 : (Kd.slice 3 (Kd.int .i64)).C w A2 x.f2.length x.f2) : k25.K w x [.slice A0 x.f0.length c0, .slice A1 x.f1.length c1, .slice A2 x.f2.length c2] := ⟨[.slice A0 x.f0.length c0], [.slice A1 x.f1.length c1, .slice A2 x.f2.length c2], rfl, ⟨A0, c0, rfl, l0, g0⟩, ⟨[.slice A1 x.f1.length c1], [.slice A2 x.f2.length c2], rfl, ⟨A1, c1, rfl, l1, g1⟩, ⟨A2, c2, rfl, l2, g2⟩⟩⟩
end Go.Proofs.YtmdfnambaedllaaDoor.Pr
namespace Go.Proofs.YtmdfnambaedllaaDoor.O
open Go Go.RowKit Go.Proofs.YtmdfnambaedllaaDoorW.PrintWords
/-- What reads as data at type t reads as a value of kind d that is ok. -/
def zTI {α : Type} (P : Program) (t : TypeId) (d : Kd α) (ok : α → Prop) : Prop :=
  P.cellsOf t = d.sz ∧ ∀ (H : Type) (enc : TypeId × Value → H) (w : World) (base : Nat) (sp : Nat → Bool) (held : Bool) (fuel : Nat) (cs : List Value) (x : DataW H × List MemPlace),
    DataW.trod enc P w base sp held fuel t cs = some x → ∃ v : α, d.K w v cs ∧ ok v
theorem zVN {P : Program} {t : TypeId} {k : IntKind} (ht : P.underlying t = some (.int k)) (hc : P.cellsOf t = 1) : zTI P t (Kd.int k) (fun x => (Lit.int k x).wf = true) :=
  ⟨hc, fun H enc w base sp held fuel cs x h => by
    obtain ⟨n, rfl, _, hw⟩ := DataW.trod_int ht h
    exact ⟨n, rfl, hw⟩⟩
theorem zTE {α : Type} (n : Nat) (p : Nat → α → Prop) (h : ∀ i, i < n → ∃ v, p i v) : ∃ vs : List α, vs.length = n ∧ ∀ i v, vs[i]? = some v → p i v := by
  induction n with
  | zero => exact ⟨[], rfl, fun i v hv => by simp at hv⟩
  | succ n ih =>
    obtain ⟨vs, hl, hp⟩ := ih (fun i hi => h i (by omega))
    obtain ⟨v, hv⟩ := h n (by omega)
    refine ⟨vs ++ [v], by simp [hl], fun i u hu => ?_⟩
    rcases Nat.lt_or_ge i n with hi | hi
    · rw [List.getElem?_append_left (by omega)] at hu
      exact hp i u hu
    · rw [List.getElem?_append_right (by omega)] at hu
      have hi0 : i = n := by
        have := (List.getElem?_eq_some_iff.1 hu).1
        simp at this
        omega
      subst hi0
      rw [hl] at hu
      simp at hu
      subst hu
      exact hv
theorem zKX {α : Type} {P : Program} {t e : TypeId} {d : Kd α} {ok : α → Prop} (ht : P.underlying t = some (.slice e)) (hc : P.cellsOf t = 1) (hO : zTI P e d ok) :
    zTI P t (Kd.slice e d) (fun xs => xs.length ≤ maxLen ∧ ∀ x, x ∈ xs → ok x) :=
  ⟨hc, fun H enc w base sp held fuel cs x h => by
    rcases DataW.trod_slice ht h with ⟨rfl, _⟩ | ⟨a, len, cap, elems, rest, n, _, rfl, _, hb, hl, hm, hel, hget, _, _⟩
    · exact ⟨[], ⟨none, 0, rfl, Nat.le_refl _, rfl, by simp, fun h0 => absurd h0 (by simp)⟩, by simp, fun x hx => absurd hx (by simp)⟩
    · obtain ⟨vs, hvl, hv⟩ := zTE len (fun i v => (∃ c, c.length = d.sz ∧ d.K w v c ∧ ∀ j u, c[j]? = some u → w.cell? (a.add (i * d.sz + j)) = some u) ∧ ok v) (fun i hi => by
        have hg := hget i hi
        obtain ⟨y, hy⟩ : ∃ y, elems[i]? = some y := ⟨elems[i]'(by omega), List.getElem?_eq_getElem (by omega)⟩
        rw [hy] at hg
        obtain ⟨c, hcs, htr⟩ := Option.bind_eq_some_iff.1 hg
        obtain ⟨v, hK, hok⟩ := hO.2 H enc w base sp held n c y htr
        obtain ⟨_, hcl, hcell⟩ := World.cells?_some hcs
        refine ⟨v, ⟨c, by rw [hcl, hO.1], hK, fun j u hj => ?_⟩, hok⟩
        have hjl : j < P.cellsOf e := by
          rw [← hcl]
          exact (List.getElem?_eq_some_iff.1 hj).1
        rw [← hO.1, ← Addr.add_add, hcell j hjl, hj])
      have hmx : len ≤ 9223372036854775807 := by
        have : len ≤ maxLen := by omega
        simpa [maxLen] using this
      refine ⟨vs, ⟨some a, cap, by rw [hvl], by omega, rfl, by omega, fun _ => ⟨a, rfl, fun j p hp => ?_⟩⟩, by omega, fun x hx => ?_⟩
      · exact (hv j p hp).1
      · obtain ⟨i, hi⟩ := List.mem_iff_getElem?.1 hx
        exact (hv i x hi).2⟩
/-- One of the listed variables. -/
theorem zFI {P : Program} {w : World} {name : String} {d : DataW Unit} : ∀ (l : List (String × DataW Unit)) (ps : List MemPlace), DataW.LaidVars P w l ps → (name, d) ∈ l →
    ∃ g t cs fuel p, P.globalNamed name = some g ∧ (P.globals[g]?).map (·.type) = some t ∧ w.var? P name = some cs ∧ DataW.trod (fun _ => ()) P w 0 (fun _ => true) false fuel t cs.toList = some (d, p)
  | [], _, _, hm => absurd hm (by simp)
  | (n, e) :: r, ps, h, hm => by
    obtain ⟨g, t, cs, fuel, p, q, hg, ht, hv, hd, hr, _⟩ := h
    rcases List.mem_cons.1 hm with hx | hx
    · injection hx with h1 h2
      subst h1
      subst h2
      exact ⟨g, t, cs, fuel, p, hg, ht, hv, hd⟩
    · exact zFI r q hr hx
theorem zRN {P : Program} {W : World} {name : String} {k : IntKind} {zs : List Int} {laid : List (String × DataW Unit)} {g : Nat} {t e : TypeId} {n : Nat}
    (hg : P.globalNamed name = some g) (hty : (P.globals[g]?).map (·.type) = some t) (ht : P.underlying t = some (.array n e)) (he : P.underlying e = some (.int k)) (hce : P.cellsOf e = 1) (hct : P.cellsOf t = n)
    (h : laidMet P laid W) (hm : (name, Lib.tabData k zs) ∈ laid) : Lib.TabIs P W name k zs := by
  obtain ⟨ps, hl, _⟩ := h
  obtain ⟨g', t', cs, fuel, p, hg', ht', hvar, hd⟩ := zFI laid ps hl hm
  obtain rfl := Option.some.inj (hg.symm.trans hg')
  obtain rfl := Option.some.inj (hty.symm.trans ht')
  unfold Lib.TabIs
  rw [hvar, ← Lib.cells_of_tab ht he hce hct hd]
end Go.Proofs.YtmdfnambaedllaaDoor.O
namespace Go.Proofs.YtmdfnambaedllaaDoor.X
open Go Go.RowKit
/-- What a variable holds stays where all that lay stays. -/
theorem zKQ {P : Program} {w w' : World} {name : String} {cs : Array Value} (h : w.var? P name = some cs) (hb : Below w.heap.size w w') : w'.var? P name = some cs := by
  unfold World.var? at *
  cases hg : P.globalNamed name with
  | none => simp [hg] at h
  | some g =>
    simp only [hg, Option.bind_some] at h ⊢
    have hlt : g < w.heap.size := by
      rcases Nat.lt_or_ge g w.heap.size with h' | h'
      · exact h'
      · rw [Array.getElem?_eq_none h'] at h; simp at h
    rw [hb.block g hlt]
    exact h
/-- A variable of an interface's type, out of what is laid. -/
theorem zHQ {P : Program} {W : World} {name tname : String} {d : DataW Unit} {laid : List (String × DataW Unit)} {g : Nat} {ti : TypeId} {ms : Array (String × TypeId)}
    (hg : P.globalNamed name = some g) (hty : (P.globals[g]?).map (·.type) = some ti) (hi : P.underlying ti = some (.interface ms)) (h : laidMet P laid W) (hm : (name, .iface tname d) ∈ laid) :
    ∃ u v, W.var? P name = some #[.iface u v] := by
  obtain ⟨ps, hl, _⟩ := h
  obtain ⟨g', t', cs, fuel, p, hg', ht', hvar, hd⟩ := O.zFI laid ps hl hm
  obtain rfl := Option.some.inj (hg.symm.trans hg')
  obtain rfl := Option.some.inj (hty.symm.trans ht')
  obtain ⟨_, u, v, e, _, _⟩ := iface_of_trod hi hd
  refine ⟨u, v, hvar.trans (congrArg some ?_)⟩
  obtain ⟨l⟩ := cs
  exact congrArg Array.mk e
/-- The table of the powers of ten, strconv's two errors, and some number where internal/bytealg.MaxLen lies. -/
def GI (w : World) : Prop := Lib.TabIs Tryd.prog w "internal/strconv.uint64pow10" .u64 Lib.pow10Tab ∧ (∃ tp p, w.var? Tryd.prog "strconv.ErrSyntax" = some #[.iface tp p]) ∧ (∃ tp p, w.var? Tryd.prog "strconv.ErrRange" = some #[.iface tp p]) ∧ ∃ m, w.cell? ⟨0, 0, none⟩ = some (.int .i64 m)
theorem GI.below {w w' : World} (h : GI w) (hb : Below w.heap.size w w') : GI w' := by
  obtain ⟨h1, ⟨tp, p, h2⟩, ⟨tp2, p2, h3⟩, m, h4⟩ := h
  exact ⟨zKQ h1 hb, ⟨tp, p, zKQ h2 hb⟩, ⟨tp2, p2, zKQ h3 hb⟩, m, (hb.cell (World.block_lt_of_cell? w _ h4)).trans h4⟩
theorem GI.drewN {w : World} (h : GI w) (n : Nat) : GI (w.drewN n) := h
theorem GI.drew {w : World} (h : GI w) : GI w.drew := h
theorem GI.max {w : World} (h : GI w) : ∃ m, w.cell? ⟨0, 0, none⟩ = some (.int .i64 m) := h.2.2.2
theorem GI.of_laid {W : World} (laid : List (String × DataW Unit)) (hm1 : ("internal/strconv.uint64pow10", Rows.laid_internal_strconv_uint64pow10) ∈ laid) (hm2 : ("strconv.ErrSyntax", Rows.laid_strconv_ErrSyntax) ∈ laid) (hm3 : ("strconv.ErrRange", Rows.laid_strconv_ErrRange) ∈ laid)
    (h : laidMetH Tryd.prog laid W) (hsh : W.ShapedOpen Tryd.prog) (hp : (laid.filter fun x => x.2.handleName?.isSome) = [] := by kernel_rfl) : GI W := by
  unfold laidMetH at h
  rw [hp] at h
  refine ⟨O.zRN (g := 1) (t := 108) (e := 97) (n := 20) (by kernel_rfl) (by kernel_rfl) Tryd.underlying108 Tryd.underlying97 (by kernel_rfl) (by kernel_rfl) h hm1, ?_, ?_, ?_⟩
  · exact zHQ (g := 4) (ti := 90) (by kernel_rfl) (by kernel_rfl) Tryd.underlying90 h hm2
  · exact zHQ (g := 5) (ti := 90) (by kernel_rfl) (by kernel_rfl) Tryd.underlying90 h hm3
  · exact cell_of_shapedOpen_int (t := 3) (zero := #[.int .i64 0]) hsh (of_decide_eq_true (by kernel_rfl)) (by kernel_rfl) rfl (by kernel_rfl) (by kernel_rfl) Tryd.underlying3
end Go.Proofs.YtmdfnambaedllaaDoor.X
namespace Go.Proofs.YtmdfnambaedllaaDoor.Pr
open Go.RowKit Go.Proofs.YtmdfnambaedllaaDoorW.PrintWords Go.Proofs.YtmdfnambaedllaaDoorW.PrintLast Go.Proofs.YtmdfnambaedllaaDoorW.PrintMore Go.Proofs.YtmdfnambaedllaaDoor.X
attribute [local go_sem] kJ kH zAS zAR uF uE kI kG   -- for this text's walks alone
set_option linter.unusedVariables false
set_option linter.unusedSimpArgs false
def vZ.f (a0 : Int) : Option (Bool) := if a0 < 0 then (some true) else (some (decide (a0 > 10000)))
set_option maxHeartbeats 8000000 in
set_option maxRecDepth 100000 in
theorem vZ.calls (a0 : Int) (r : Bool) (w : World) (h : vZ.f a0 = some r) :
  Calls Tryd.prog 27 #[.int .i64 a0] w fun e w' => e = .returned (.bool r) ∧ wI w w' := by
 have H : (if a0 < 0 then (some true) else (some (decide (a0 > 10000)))) = some r := h; clear h; by_cases c2 : a0 < 0
 ·
  rw [if_pos c2] at H; have c2b0 : decide (a0 < 0) = true := decide_eq_true c2; clear c2; obtain rfl := Option.some.inj H; go_enter Tryd.func27, Tryd.ntmps27
  go_wp2; go_ret
  exact ⟨by first | rfl | (simp; done) | (simp [*]; done), by repeat (first | exact wI.refl _ | apply wI.step)⟩
 ·
  rw [if_neg c2] at H; have c2b0 : decide (a0 < 0) = false := decide_eq_false c2; clear c2; obtain rfl := Option.some.inj H; go_enter Tryd.func27, Tryd.ntmps27
  go_wp2; go_ret
  exact ⟨by first | rfl | (simp; done) | (simp [*]; done), by repeat (first | exact wI.refl _ | apply wI.step)⟩
def uO.f (l0 : List Int) (a1_0 : Int) : Option (Bool) := some ((l0.length : Int) != a1_0)
set_option maxHeartbeats 8000000 in
set_option maxRecDepth 100000 in
theorem uO.calls (A0 : Option Addr) (c0 : Nat) (l0 : List Int) (B1 : Nat) (a1_0 : Int) (r : Bool) (w : World) (hr0 : Kd.C (Kd.int .i64) w A0 l0.length l0) (hc0 : l0.length ≤ c0) (hb1 : w.heap[B1]? = some (.cells #[.int .i64 a1_0] 3 (0, 0))) (h : uO.f l0 a1_0 = some r) :
  Calls Tryd.prog 35 #[.slice A0 l0.length c0, .pointer (some ⟨B1, 0, none⟩)] w fun e w' => e = .returned (.bool r) ∧ wI w w' := by
 have HR0 := zA.mk hr0; have HC0 := zA.mk hc0; clear hr0 hc0; have zRA := zA.mk hb1; clear hb1; have H : (some ((l0.length : Int) != a1_0)) = some r := h; clear h; obtain rfl := Option.some.inj H; have hcz3_0 : w.cell? ⟨B1, 0, none⟩ = some (.int .i64 a1_0) := (zC zRA.out 0).trans rfl; have hfz3_0 := zB zRA.out 0; go_enter Tryd.func35, Tryd.ntmps35
 go_wp2; go_ret
 exact ⟨by first | rfl | (simp; done) | (simp [*]; done), by repeat (first | exact wI.refl _ | apply wI.step)⟩
def uN.f (a0 : Int) : Option (Bool) := if a0 < (-400) then (some true) else (some (decide (a0 > 600)))
set_option maxHeartbeats 8000000 in
set_option maxRecDepth 100000 in
theorem uN.calls (a0 : Int) (r : Bool) (w : World) (h : uN.f a0 = some r) :
  Calls Tryd.prog 37 #[.int .i64 a0] w fun e w' => e = .returned (.bool r) ∧ wI w w' := by
 have H : (if a0 < (-400) then (some true) else (some (decide (a0 > 600)))) = some r := h; clear h; by_cases c2 : a0 < (-400)
 ·
  rw [if_pos c2] at H; have c2b0 : decide (a0 < (-400)) = true := decide_eq_true c2; clear c2; obtain rfl := Option.some.inj H; go_enter Tryd.func37, Tryd.ntmps37
  go_wp2; go_ret
  exact ⟨by first | rfl | (simp; done) | (simp [*]; done), by repeat (first | exact wI.refl _ | apply wI.step)⟩
 ·
  rw [if_neg c2] at H; have c2b0 : decide (a0 < (-400)) = false := decide_eq_false c2; clear c2; obtain rfl := Option.some.inj H; go_enter Tryd.func37, Tryd.ntmps37
  go_wp2; go_ret
  exact ⟨by first | rfl | (simp; done) | (simp [*]; done), by repeat (first | exact wI.refl _ | apply wI.step)⟩
def wA.l0 : Nat → List Int → Int → Int → Option (Int)
 | 0, _, _, _ => none
 | k + 1, x0, x7, x8 => if x8 < x7 then (if 0 ≤ x8 then (if x8 < (x0.length : Int) then ((vZ.f (rd x0 x8)).bind fun t102 => (if t102 = true then (some x8) else (wA.l0 k x0 x7 (wrap64 (x8 + 1))))) else (none)) else (none)) else (some (-1))
def wA.f (k : Nat) (l0 : List Int)  : Option (Int) := wA.l0 k l0 (l0.length : Int) 0
set_option maxHeartbeats 8000000 in
set_option maxRecDepth 100000 in
theorem wA.calls (k : Nat) (A0 : Option Addr) (c0 : Nat) (l0 : List Int)  (r : Int) (w : World) (hr0 : Kd.C (Kd.int .i64) w A0 l0.length l0) (hc0 : l0.length ≤ c0) (h : wA.f k l0 = some r) :
  Calls Tryd.prog 57 #[.slice A0 l0.length c0, .func (.func 27) #[] #[]] w fun e w' => e = .returned (.int .i64 r) ∧ wI w w' := by
 have HR0 := zA.mk hr0; have HC0 := zA.mk hc0; clear hr0 hc0; have H : (wA.l0 k l0 (l0.length : Int) 0) = some r := h; clear h; have H' := zA.mk H; clear H; go_enter Tryd.func57, Tryd.ntmps57
 go_wp2; go_loopg [8] k (fun kq v8 w' => ∃ (x8_1 : Int), v8 = .int .i64 x8_1 ∧ zA (wA.l0 kq l0 (l0.length : Int) x8_1 = some r) ∧ zA (kq ≤ k) ∧ wI w w')
 case atStart => exact ⟨(0), (by first | rfl | (simp; done) | (simp [*]; done)), H', ⟨Nat.le_refl _⟩, by repeat (first | exact wI.refl _ | apply wI.step)⟩
 case round =>
  clear H'; try clear p2
  obtain ⟨x8_1, rfl, HA, HK1, ⟨m1, rfl⟩⟩ := hrel
  cases gk with
  | zero => exact absurd HA.out (by simp [wA.l0])
  | succ k1 =>
   have H := HA.out; clear HA; simp only [wA.l0] at H; by_cases c3 : x8_1 < (l0.length : Int)
   ·
    rw [if_pos c3] at H; have c3b0 : decide (x8_1 < (l0.length : Int)) = true := decide_eq_true c3; clear c3; by_cases c4 : 0 ≤ x8_1
    ·
     rw [if_pos c4] at H; have c4b0 : decide (0 ≤ x8_1) = true := decide_eq_true c4; clear c4; by_cases c5 : x8_1 < (l0.length : Int)
     ·
      rw [if_pos c5] at H; have c5b0 : decide (x8_1 < (l0.length : Int)) = true := decide_eq_true c5; clear c5; replace H := Option.bind_eq_some_iff.mp H; obtain ⟨t102, A60, H⟩ := H; replace H : (if t102 = true then (some x8_1) else (wA.l0 k1 l0 (l0.length : Int) (wrap64 (x8_1 + 1)))) = some r := H; have A6 := zA.mk A60; clear A60; by_cases c7 : t102 = true
      ·
       subst c7; have H1 : (some x8_1) = some r := by rw [if_pos rfl] at H; exact H
       clear H; have H := H1; clear H1; obtain rfl := Option.some.inj H; have p101 : 0 ≤ (x8_1 : Int) := of_decide_eq_true (by first | (with_reducible assumption) | assumption); have q101 : x8_1 < (l0.length : Int) := of_decide_eq_true (by first | (with_reducible assumption) | assumption); obtain ⟨ad101, e101, hx101_0⟩ := Kd.qC HR0.out x8_1 p101 q101; cases e101; replace p101 := eq_true p101; replace q101 := eq_true q101; go_wp2_with (first | (go_at_call 27; (with_reducible refine (vZ.calls (rd l0 x8_1) true _ A6.out).mono ?_); rintro e w' ⟨rfl, ⟨nd, rfl⟩⟩))
       go_ret
       exact ⟨by first | rfl | (simp; done) | (simp [*]; done), by repeat (first | exact wI.refl _ | apply wI.step)⟩
      ·
       replace c7 := Bool.eq_false_iff.mpr c7; subst c7; have H1 : (wA.l0 k1 l0 (l0.length : Int) (wrap64 (x8_1 + 1))) = some r := by rw [if_neg (show ¬ (false = true) by decide)] at H; exact H
       clear H; have H := H1; clear H1; have H' := zA.mk H; clear H; have p101 : 0 ≤ (x8_1 : Int) := of_decide_eq_true (by first | (with_reducible assumption) | assumption); have q101 : x8_1 < (l0.length : Int) := of_decide_eq_true (by first | (with_reducible assumption) | assumption); obtain ⟨ad101, e101, hx101_0⟩ := Kd.qC HR0.out x8_1 p101 q101; cases e101; replace p101 := eq_true p101; replace q101 := eq_true q101; go_wp2_with (first | (go_at_call 27; (with_reducible refine (vZ.calls (rd l0 x8_1) false _ A6.out).mono ?_); rintro e w' ⟨rfl, ⟨nd, rfl⟩⟩))
       go_roundg k1
       case measure => have := HK1.out; omega
       case rel => exact ⟨(wrap64 (x8_1 + 1)), (by first | rfl | (simp; done) | (simp [*]; done)), H', ⟨by have := HK1.out; omega⟩, by repeat (first | exact wI.refl _ | apply wI.step)⟩
     · rw [if_neg c5] at H; exact absurd H (by simp)
    · rw [if_neg c4] at H; exact absurd H (by simp)
   ·
    rw [if_neg c3] at H; have c3b0 : decide (x8_1 < (l0.length : Int)) = false := decide_eq_false c3; clear c3; obtain rfl := Option.some.inj H; go_wp2; go_ret
    exact ⟨by first | rfl | (simp; done) | (simp [*]; done), by repeat (first | exact wI.refl _ | apply wI.step)⟩
def wY.f (k : Nat) (l0 : List Int)  : Option (Bool) := (wA.f k l0).bind fun t103 => (some (decide (t103 ≥ 0)))
set_option maxHeartbeats 8000000 in
set_option maxRecDepth 100000 in
theorem wY.calls (k : Nat) (A0 : Option Addr) (c0 : Nat) (l0 : List Int)  (r : Bool) (w : World) (hr0 : Kd.C (Kd.int .i64) w A0 l0.length l0) (hc0 : l0.length ≤ c0) (h : wY.f k l0 = some r) :
  Calls Tryd.prog 36 #[.slice A0 l0.length c0, .func (.func 27) #[] #[]] w fun e w' => e = .returned (.bool r) ∧ wI w w' := by
 have HR0 := zA.mk hr0; have HC0 := zA.mk hc0; clear hr0 hc0; have H : ((wA.f k l0).bind fun t103 => (some (decide (t103 ≥ 0)))) = some r := h; clear h; replace H := Option.bind_eq_some_iff.mp H; obtain ⟨t103, A30, H⟩ := H; replace H : (some (decide (t103 ≥ 0))) = some r := H; have A3 := zA.mk A30; clear A30; obtain rfl := Option.some.inj H; go_enter Tryd.func36, Tryd.ntmps36
 go_wp2_with (first | ((with_reducible refine zQ (f := 57) rfl ?_); refine vN (some 7) rfl rfl Tryd.func57 (by kernel_rfl) rfl #[.slice A0 l0.length c0, .func (.func 27) #[] #[]] rfl (by (try simp only [List.map_toArray, List.map_cons, List.map_nil]); first | done | rfl | (simp only [List.length_drop, List.length_take]; rfl)) ?_; (with_reducible refine (wA.calls k _ _ l0 t103 _ ?side1 ?side2 A3.out).mono ?_); (case side1 => repeat (first | exact HR0.out | (with_reducible refine Kd.zP ?_ _) | (with_reducible refine Kd.zO ?_ _) | (with_reducible refine Kd.zY ?_))); (case side2 => exact HC0.out); rintro e w' ⟨rfl, ⟨nd, rfl⟩⟩; refine ⟨_, rfl, ?_⟩))
 go_ret
 exact ⟨by first | rfl | (simp; done) | (simp [*]; done), by repeat (first | exact wI.refl _ | apply wI.step)⟩
def kO.f (k : Nat) (l0 : List Int) : Option (Bool) := (wY.f k l0).bind fun t104 => (some t104)
set_option maxHeartbeats 8000000 in
set_option maxRecDepth 100000 in
theorem kO.calls (k : Nat) (A0 : Option Addr) (c0 : Nat) (l0 : List Int) (r : Bool) (w : World) (hr0 : Kd.C (Kd.int .i64) w A0 l0.length l0) (hc0 : l0.length ≤ c0) (h : kO.f k l0 = some r) :
  Calls Tryd.prog 38 #[.slice A0 l0.length c0] w fun e w' => e = .returned (.bool r) ∧ wI w w' := by
 have HR0 := zA.mk hr0; have HC0 := zA.mk hc0; clear hr0 hc0; have H : ((wY.f k l0).bind fun t104 => (some t104)) = some r := h; clear h; replace H := Option.bind_eq_some_iff.mp H; obtain ⟨t104, A20, H⟩ := H; replace H : (some t104) = some r := H; have A2 := zA.mk A20; clear A20; obtain rfl := Option.some.inj H; go_enter Tryd.func38, Tryd.ntmps38
 go_wp2_with (first | ((with_reducible refine zQ (f := 36) rfl ?_); refine vN (some 4) rfl rfl Tryd.func36 (by kernel_rfl) rfl #[.slice A0 l0.length c0, .func (.func 27) #[] #[]] rfl (by (try simp only [List.map_toArray, List.map_cons, List.map_nil]); first | done | rfl | (simp only [List.length_drop, List.length_take]; rfl)) ?_; (with_reducible refine (wY.calls k _ _ l0 t104 _ ?side1 ?side2 A2.out).mono ?_); (case side1 => repeat (first | exact HR0.out | (with_reducible refine Kd.zP ?_ _) | (with_reducible refine Kd.zO ?_ _) | (with_reducible refine Kd.zY ?_))); (case side2 => exact HC0.out); rintro e w' ⟨rfl, ⟨nd, rfl⟩⟩; refine ⟨_, rfl, ?_⟩))
 go_ret
 exact ⟨by first | rfl | (simp; done) | (simp [*]; done), by repeat (first | exact wI.refl _ | apply wI.step)⟩
def vI.l0 : Nat → List Int → Int → Int → Option (Bool)
 | 0, _, _, _ => none
 | k + 1, x0, x6, x7 => if x7 < x6 then (if 0 ≤ x7 then (if x7 < (x0.length : Int) then (if 0 ≤ (wrap64 (x7 + 1)) then (if (wrap64 (x7 + 1)) < (x0.length : Int) then (if (rd x0 x7) ≥ (rd x0 (wrap64 (x7 + 1))) then (some false) else (vI.l0 k x0 x6 (wrap64 (x7 + 1)))) else (none)) else (none)) else (none)) else (none)) else (some true)
def vI.f (k : Nat) (l0 : List Int) : Option (Bool) := vI.l0 k l0 (wrap64 ((l0.length : Int) - 1)) 0
set_option maxHeartbeats 8000000 in
set_option maxRecDepth 100000 in
theorem vI.calls (k : Nat) (A0 : Option Addr) (c0 : Nat) (l0 : List Int) (r : Bool) (w : World) (hr0 : Kd.C (Kd.int .i64) w A0 l0.length l0) (hc0 : l0.length ≤ c0) (h : vI.f k l0 = some r) :
  Calls Tryd.prog 39 #[.slice A0 l0.length c0] w fun e w' => e = .returned (.bool r) ∧ wI w w' := by
 have HR0 := zA.mk hr0; have HC0 := zA.mk hc0; clear hr0 hc0; have H : (vI.l0 k l0 (wrap64 ((l0.length : Int) - 1)) 0) = some r := h; clear h; have H' := zA.mk H; clear H; go_enter Tryd.func39, Tryd.ntmps39
 go_wp2; repeat (go_quiet (fail); try go_wp2)
 go_loopg [7] k (fun kq v7 w' => ∃ (x7_1 : Int), v7 = .int .i64 x7_1 ∧ zA (vI.l0 kq l0 (wrap64 ((l0.length : Int) - 1)) x7_1 = some r) ∧ zA (kq ≤ k) ∧ wI w w')
 case atStart => exact ⟨(0), (by first | rfl | (simp; done) | (simp [*]; done)), H', ⟨Nat.le_refl _⟩, by repeat (first | exact wI.refl _ | apply wI.step)⟩
 case round =>
  clear H'; obtain ⟨x7_1, rfl, HA, HK1, ⟨m1, rfl⟩⟩ := hrel
  cases gk with
  | zero => exact absurd HA.out (by simp [vI.l0])
  | succ k1 =>
   have H := HA.out; clear HA; simp only [vI.l0] at H; by_cases c2 : x7_1 < (wrap64 ((l0.length : Int) - 1))
   ·
    rw [if_pos c2] at H; have c2b0 : decide (x7_1 < (wrap64 ((l0.length : Int) - 1))) = true := decide_eq_true c2; clear c2; by_cases c3 : 0 ≤ x7_1
    ·
     rw [if_pos c3] at H; have c3b0 : decide (0 ≤ x7_1) = true := decide_eq_true c3; clear c3; by_cases c4 : x7_1 < (l0.length : Int)
     ·
      rw [if_pos c4] at H; have c4b0 : decide (x7_1 < (l0.length : Int)) = true := decide_eq_true c4; clear c4; obtain ⟨ji5, hji5⟩ : ∃ j_ : Int, (wrap64 (x7_1 + 1)) = j_ := ⟨_, rfl⟩; replace H : (if 0 ≤ (ji5) then (if (ji5) < (l0.length : Int) then (if (rd l0 x7_1) ≥ (rd l0 (ji5)) then (some false) else (vI.l0 k1 l0 (wrap64 ((l0.length : Int) - 1)) ji5)) else (none)) else (none)) = some r := by first | (rw [hji5] at H; exact H) | (simp only [hji5] at H ⊢; exact H)
      have hji5w : (IntKind.i64.wrap (x7_1 + 1)) = ji5 := (wX _).trans hji5; by_cases c6 : 0 ≤ (ji5)
      ·
       rw [if_pos c6] at H; have c6b0 : decide (0 ≤ (ji5)) = true := decide_eq_true c6; clear c6; by_cases c7 : (ji5) < (l0.length : Int)
       ·
        rw [if_pos c7] at H; have c7b0 : decide ((ji5) < (l0.length : Int)) = true := decide_eq_true c7; clear c7; by_cases c8 : (rd l0 x7_1) ≥ (rd l0 (ji5))
        ·
         rw [if_pos c8] at H; have c8b0 : decide ((rd l0 (ji5)) ≤ (rd l0 x7_1)) = true := decide_eq_true c8; clear c8; obtain rfl := Option.some.inj H; have p105 : 0 ≤ (x7_1 : Int) := of_decide_eq_true (by first | (with_reducible assumption) | assumption); have q105 : x7_1 < (l0.length : Int) := of_decide_eq_true (by first | (with_reducible assumption) | assumption); obtain ⟨ad105, e105, hx105_0⟩ := Kd.qC HR0.out x7_1 p105 q105; cases e105; replace p105 := eq_true p105; replace q105 := eq_true q105; have p106 : 0 ≤ ((ji5) : Int) := of_decide_eq_true (by first | (with_reducible assumption) | assumption); have q106 : (ji5) < (l0.length : Int) := of_decide_eq_true (by first | (with_reducible assumption) | assumption); obtain ⟨ad106, e106, hx106_0⟩ := Kd.qC HR0.out (ji5) p106 q106; obtain rfl : ad105 = ad106 := (by injection e106); replace p106 := eq_true p106; replace q106 := eq_true q106; go_wp2; repeat (go_quiet (fail); try go_wp2)
         go_ret
         exact ⟨by first | rfl | (simp; done) | (simp only [← hji5] <;> (first | rfl | simp)) | (simp [*]; done), by repeat (first | exact wI.refl _ | apply wI.step)⟩
        ·
         rw [if_neg c8] at H; have c8b0 : decide ((rd l0 (ji5)) ≤ (rd l0 x7_1)) = false := decide_eq_false c8; clear c8; have H' := zA.mk H; clear H; have p105 : 0 ≤ (x7_1 : Int) := of_decide_eq_true (by first | (with_reducible assumption) | assumption); have q105 : x7_1 < (l0.length : Int) := of_decide_eq_true (by first | (with_reducible assumption) | assumption); obtain ⟨ad105, e105, hx105_0⟩ := Kd.qC HR0.out x7_1 p105 q105; cases e105; replace p105 := eq_true p105; replace q105 := eq_true q105; have p106 : 0 ≤ ((ji5) : Int) := of_decide_eq_true (by first | (with_reducible assumption) | assumption); have q106 : (ji5) < (l0.length : Int) := of_decide_eq_true (by first | (with_reducible assumption) | assumption); obtain ⟨ad106, e106, hx106_0⟩ := Kd.qC HR0.out (ji5) p106 q106; obtain rfl : ad105 = ad106 := (by injection e106); replace p106 := eq_true p106; replace q106 := eq_true q106; go_wp2; repeat (go_quiet (fail); try go_wp2)
         go_roundg k1
         case measure => have := HK1.out; omega
         case rel => exact ⟨(ji5), (by first | rfl | (simp; done) | (simp only [← hji5] <;> (first | rfl | simp)) | (simp [*]; done)), H', ⟨by have := HK1.out; omega⟩, by repeat (first | exact wI.refl _ | apply wI.step)⟩
       · rw [if_neg c7] at H; exact absurd H (by simp)
      · rw [if_neg c6] at H; exact absurd H (by simp)
     · rw [if_neg c4] at H; exact absurd H (by simp)
    · rw [if_neg c3] at H; exact absurd H (by simp)
   ·
    rw [if_neg c2] at H; have c2b0 : decide (x7_1 < (wrap64 ((l0.length : Int) - 1))) = false := decide_eq_false c2; clear c2; obtain rfl := Option.some.inj H; go_wp2; repeat (go_quiet (fail); try go_wp2)
    go_ret
    exact ⟨by first | rfl | (simp; done) | (simp [*]; done), by repeat (first | exact wI.refl _ | apply wI.step)⟩
def wC.l0 : Nat → List (List Int) → Int → Int → Int → Option (Int)
 | 0, _, _, _, _ => none
 | k + 1, x0, x7, x8, zGH => if x8 < x7 then (if 0 ≤ x8 then (if x8 < (x0.length : Int) then ((uO.f (zW x0 x8) zGH).bind fun t108 => (if t108 = true then (some x8) else (wC.l0 k x0 x7 (wrap64 (x8 + 1)) zGH))) else (none)) else (none)) else (some (-1))
def wC.f (k : Nat) (l0 : List (List Int))  (a2_0 : Int) : Option (Int) := wC.l0 k l0 (l0.length : Int) 0 a2_0
set_option maxHeartbeats 8000000 in
set_option maxRecDepth 100000 in
theorem wC.calls (k : Nat) (A0 : Option Addr) (c0 : Nat) (l0 : List (List Int))  (B2 : Nat) (a2_0 : Int) (r : Int) (w : World) (hr0 : Kd.C (Kd.slice 3 (Kd.int .i64)) w A0 l0.length l0) (hc0 : l0.length ≤ c0) (hb2 : w.heap[B2]? = some (.cells #[.int .i64 a2_0] 3 (0, 0))) (h : wC.f k l0 a2_0 = some r) :
  Calls Tryd.prog 56 #[.slice A0 l0.length c0, .func (.func 35) #[] #[.pointer (some ⟨B2, 0, none⟩)]] w fun e w' => e = .returned (.int .i64 r) ∧ wI w w' := by
 have HR0 := zA.mk hr0; have HC0 := zA.mk hc0; clear hr0 hc0; have zCH := zA.mk hb2; clear hb2; have H : (wC.l0 k l0 (l0.length : Int) 0 a2_0) = some r := h; clear h; have H' := zA.mk H; clear H; go_enter Tryd.func56, Tryd.ntmps56
 go_wp2; go_loopg [8] k (fun kq v8 w' => ∃ (x8_1 : Int), v8 = .int .i64 x8_1 ∧ zA (wC.l0 kq l0 (l0.length : Int) x8_1 a2_0 = some r) ∧ zA (kq ≤ k) ∧ zA (w'.heap[B2]? = some (.cells #[.int .i64 a2_0] 3 (0, 0))) ∧ wI w w')
 case atStart => exact ⟨(0), (by first | rfl | (simp; done) | (simp [*]; done)), H', ⟨Nat.le_refl _⟩, ⟨by (with_reducible repeat first | apply bN | apply bD | apply bA); exact zCH.out⟩, by repeat (first | exact wI.refl _ | apply wI.step)⟩
 case round =>
  clear H'; try clear p2
  obtain ⟨x8_1, rfl, HA, HK1, zCH, ⟨m1, rfl⟩⟩ := hrel
  cases gk with
  | zero => exact absurd HA.out (by simp [wC.l0])
  | succ k1 =>
   have H := HA.out; clear HA; simp only [wC.l0] at H; by_cases c4 : x8_1 < (l0.length : Int)
   ·
    rw [if_pos c4] at H; have c4b0 : decide (x8_1 < (l0.length : Int)) = true := decide_eq_true c4; clear c4; by_cases c5 : 0 ≤ x8_1
    ·
     rw [if_pos c5] at H; have c5b0 : decide (0 ≤ x8_1) = true := decide_eq_true c5; clear c5; by_cases c6 : x8_1 < (l0.length : Int)
     ·
      rw [if_pos c6] at H; have c6b0 : decide (x8_1 < (l0.length : Int)) = true := decide_eq_true c6; clear c6; replace H := Option.bind_eq_some_iff.mp H; obtain ⟨t108, A70, H⟩ := H; replace H : (if t108 = true then (some x8_1) else (wC.l0 k1 l0 (l0.length : Int) (wrap64 (x8_1 + 1)) a2_0)) = some r := H; have A7 := zA.mk A70; clear A70; by_cases c8 : t108 = true
      ·
       subst c8; have H1 : (some x8_1) = some r := by rw [if_pos rfl] at H; exact H
       clear H; have H := H1; clear H1; obtain rfl := Option.some.inj H; have p107 : 0 ≤ (x8_1 : Int) := of_decide_eq_true (by first | (with_reducible assumption) | assumption); have q107 : x8_1 < (l0.length : Int) := of_decide_eq_true (by first | (with_reducible assumption) | assumption); obtain ⟨ad107, A107_0, c107_0, e107, zLP, hl107_0, hi107_0⟩ := kQ HR0.out x8_1 p107 q107; cases e107; have HR107_0 := zA.mk hi107_0; have HC107_0 := zA.mk hl107_0; clear hi107_0 hl107_0; replace p107 := eq_true p107; replace q107 := eq_true q107; go_wp2_with (first | (go_at_call 35; (with_reducible refine (uO.calls _ _ (zW l0 x8_1)  B2 a2_0 true _ ?side1 ?side2 ?side3 A7.out).mono ?_); (case side1 => repeat (first | exact HR107_0.out | (with_reducible refine Kd.zP ?_ _) | (with_reducible refine Kd.zO ?_ _) | (with_reducible refine Kd.zY ?_))); (case side2 => exact HC107_0.out); (case side3 => (with_reducible repeat first | apply bN | apply bD | apply bA); exact zCH.out); rintro e w' ⟨rfl, ⟨nd, rfl⟩⟩))
       go_ret
       exact ⟨by first | rfl | (simp; done) | (simp [*]; done), by repeat (first | exact wI.refl _ | apply wI.step)⟩
      ·
       replace c8 := Bool.eq_false_iff.mpr c8; subst c8; have H1 : (wC.l0 k1 l0 (l0.length : Int) (wrap64 (x8_1 + 1)) a2_0) = some r := by rw [if_neg (show ¬ (false = true) by decide)] at H; exact H
       clear H; have H := H1; clear H1; have H' := zA.mk H; clear H; have p107 : 0 ≤ (x8_1 : Int) := of_decide_eq_true (by first | (with_reducible assumption) | assumption); have q107 : x8_1 < (l0.length : Int) := of_decide_eq_true (by first | (with_reducible assumption) | assumption); obtain ⟨ad107, A107_0, c107_0, e107, zLP, hl107_0, hi107_0⟩ := kQ HR0.out x8_1 p107 q107; cases e107; have HR107_0 := zA.mk hi107_0; have HC107_0 := zA.mk hl107_0; clear hi107_0 hl107_0; replace p107 := eq_true p107; replace q107 := eq_true q107; go_wp2_with (first | (go_at_call 35; (with_reducible refine (uO.calls _ _ (zW l0 x8_1)  B2 a2_0 false _ ?side1 ?side2 ?side3 A7.out).mono ?_); (case side1 => repeat (first | exact HR107_0.out | (with_reducible refine Kd.zP ?_ _) | (with_reducible refine Kd.zO ?_ _) | (with_reducible refine Kd.zY ?_))); (case side2 => exact HC107_0.out); (case side3 => (with_reducible repeat first | apply bN | apply bD | apply bA); exact zCH.out); rintro e w' ⟨rfl, ⟨nd, rfl⟩⟩))
       go_roundg k1
       case measure => have := HK1.out; omega
       case rel => exact ⟨(wrap64 (x8_1 + 1)), (by first | rfl | (simp; done) | (simp [*]; done)), H', ⟨by have := HK1.out; omega⟩, ⟨by (with_reducible repeat first | apply bN | apply bD | apply bA); exact zCH.out⟩, by repeat (first | exact wI.refl _ | apply wI.step)⟩
     · rw [if_neg c6] at H; exact absurd H (by simp)
    · rw [if_neg c5] at H; exact absurd H (by simp)
   ·
    rw [if_neg c4] at H; have c4b0 : decide (x8_1 < (l0.length : Int)) = false := decide_eq_false c4; clear c4; obtain rfl := Option.some.inj H; go_wp2; go_ret
    exact ⟨by first | rfl | (simp; done) | (simp [*]; done), by repeat (first | exact wI.refl _ | apply wI.step)⟩
def qH.f (k : Nat) (l0 : List (List Int))  (a2_0 : Int) : Option (Bool) := (wC.f k l0 a2_0).bind fun t109 => (some (decide (t109 ≥ 0)))
set_option maxHeartbeats 8000000 in
set_option maxRecDepth 100000 in
theorem qH.calls (k : Nat) (A0 : Option Addr) (c0 : Nat) (l0 : List (List Int))  (B2 : Nat) (a2_0 : Int) (r : Bool) (w : World) (hr0 : Kd.C (Kd.slice 3 (Kd.int .i64)) w A0 l0.length l0) (hc0 : l0.length ≤ c0) (hb2 : w.heap[B2]? = some (.cells #[.int .i64 a2_0] 3 (0, 0))) (h : qH.f k l0 a2_0 = some r) :
  Calls Tryd.prog 34 #[.slice A0 l0.length c0, .func (.func 35) #[] #[.pointer (some ⟨B2, 0, none⟩)]] w fun e w' => e = .returned (.bool r) ∧ wI w w' := by
 have HR0 := zA.mk hr0; have HC0 := zA.mk hc0; clear hr0 hc0; have zCH := zA.mk hb2; clear hb2; have H : ((wC.f k l0 a2_0).bind fun t109 => (some (decide (t109 ≥ 0)))) = some r := h; clear h; replace H := Option.bind_eq_some_iff.mp H; obtain ⟨t109, A40, H⟩ := H; replace H : (some (decide (t109 ≥ 0))) = some r := H; have A4 := zA.mk A40; clear A40; obtain rfl := Option.some.inj H; go_enter Tryd.func34, Tryd.ntmps34
 go_wp2_with (first | ((with_reducible refine zQ (f := 56) rfl ?_); refine vN (some 7) rfl rfl Tryd.func56 (by kernel_rfl) rfl #[.slice A0 l0.length c0, .func (.func 35) #[] #[.pointer (some ⟨B2, 0, none⟩)]] rfl (by (try simp only [List.map_toArray, List.map_cons, List.map_nil]); first | done | rfl | (simp only [List.length_drop, List.length_take]; rfl)) ?_; (with_reducible refine (wC.calls k _ _ l0  B2 a2_0 t109 _ ?side1 ?side2 ?side3 A4.out).mono ?_); (case side1 => repeat (first | exact HR0.out | (with_reducible refine Kd.zP ?_ _) | (with_reducible refine Kd.zO ?_ _) | (with_reducible refine Kd.zY ?_))); (case side2 => exact HC0.out); (case side3 => (with_reducible repeat first | apply bN | apply bD | apply bA); exact zCH.out); rintro e w' ⟨rfl, ⟨nd, rfl⟩⟩; refine ⟨_, rfl, ?_⟩))
 go_ret
 exact ⟨by first | rfl | (simp; done) | (simp [*]; done), by repeat (first | exact wI.refl _ | apply wI.step)⟩
def zZ.l0 : Nat → List Int → Int → Int → Option (Int)
 | 0, _, _, _ => none
 | k + 1, x0, x7, x8 => if x8 < x7 then (if 0 ≤ x8 then (if x8 < (x0.length : Int) then ((uN.f (rd x0 x8)).bind fun t108 => (if t108 = true then (some x8) else (zZ.l0 k x0 x7 (wrap64 (x8 + 1))))) else (none)) else (none)) else (some (-1))
def zZ.f (k : Nat) (l0 : List Int)  : Option (Int) := zZ.l0 k l0 (l0.length : Int) 0
set_option maxHeartbeats 8000000 in
set_option maxRecDepth 100000 in
theorem zZ.calls (k : Nat) (A0 : Option Addr) (c0 : Nat) (l0 : List Int)  (r : Int) (w : World) (hr0 : Kd.C (Kd.int .i64) w A0 l0.length l0) (hc0 : l0.length ≤ c0) (h : zZ.f k l0 = some r) :
  Calls Tryd.prog 57 #[.slice A0 l0.length c0, .func (.func 37) #[] #[]] w fun e w' => e = .returned (.int .i64 r) ∧ wI w w' := by
 have HR0 := zA.mk hr0; have HC0 := zA.mk hc0; clear hr0 hc0; have H : (zZ.l0 k l0 (l0.length : Int) 0) = some r := h; clear h; have H' := zA.mk H; clear H; go_enter Tryd.func57, Tryd.ntmps57
 go_wp2; go_loopg [8] k (fun kq v8 w' => ∃ (x8_1 : Int), v8 = .int .i64 x8_1 ∧ zA (zZ.l0 kq l0 (l0.length : Int) x8_1 = some r) ∧ zA (kq ≤ k) ∧ wI w w')
 case atStart => exact ⟨(0), (by first | rfl | (simp; done) | (simp [*]; done)), H', ⟨Nat.le_refl _⟩, by repeat (first | exact wI.refl _ | apply wI.step)⟩
 case round =>
  clear H'; try clear p2
  obtain ⟨x8_1, rfl, HA, HK1, ⟨m1, rfl⟩⟩ := hrel
  cases gk with
  | zero => exact absurd HA.out (by simp [zZ.l0])
  | succ k1 =>
   have H := HA.out; clear HA; simp only [zZ.l0] at H; by_cases c3 : x8_1 < (l0.length : Int)
   ·
    rw [if_pos c3] at H; have c3b0 : decide (x8_1 < (l0.length : Int)) = true := decide_eq_true c3; clear c3; by_cases c4 : 0 ≤ x8_1
    ·
     rw [if_pos c4] at H; have c4b0 : decide (0 ≤ x8_1) = true := decide_eq_true c4; clear c4; by_cases c5 : x8_1 < (l0.length : Int)
     ·
      rw [if_pos c5] at H; have c5b0 : decide (x8_1 < (l0.length : Int)) = true := decide_eq_true c5; clear c5; replace H := Option.bind_eq_some_iff.mp H; obtain ⟨t108, A60, H⟩ := H; replace H : (if t108 = true then (some x8_1) else (zZ.l0 k1 l0 (l0.length : Int) (wrap64 (x8_1 + 1)))) = some r := H; have A6 := zA.mk A60; clear A60; by_cases c7 : t108 = true
      ·
       subst c7; have H1 : (some x8_1) = some r := by rw [if_pos rfl] at H; exact H
       clear H; have H := H1; clear H1; obtain rfl := Option.some.inj H; have p107 : 0 ≤ (x8_1 : Int) := of_decide_eq_true (by first | (with_reducible assumption) | assumption); have q107 : x8_1 < (l0.length : Int) := of_decide_eq_true (by first | (with_reducible assumption) | assumption); obtain ⟨ad107, e107, zLP⟩ := Kd.qC HR0.out x8_1 p107 q107; cases e107; replace p107 := eq_true p107; replace q107 := eq_true q107; go_wp2_with (first | (go_at_call 37; (with_reducible refine (uN.calls (rd l0 x8_1) true _ A6.out).mono ?_); rintro e w' ⟨rfl, ⟨nd, rfl⟩⟩))
       go_ret
       exact ⟨by first | rfl | (simp; done) | (simp [*]; done), by repeat (first | exact wI.refl _ | apply wI.step)⟩
      ·
       replace c7 := Bool.eq_false_iff.mpr c7; subst c7; have H1 : (zZ.l0 k1 l0 (l0.length : Int) (wrap64 (x8_1 + 1))) = some r := by rw [if_neg (show ¬ (false = true) by decide)] at H; exact H
       clear H; have H := H1; clear H1; have H' := zA.mk H; clear H; have p107 : 0 ≤ (x8_1 : Int) := of_decide_eq_true (by first | (with_reducible assumption) | assumption); have q107 : x8_1 < (l0.length : Int) := of_decide_eq_true (by first | (with_reducible assumption) | assumption); obtain ⟨ad107, e107, zLP⟩ := Kd.qC HR0.out x8_1 p107 q107; cases e107; replace p107 := eq_true p107; replace q107 := eq_true q107; go_wp2_with (first | (go_at_call 37; (with_reducible refine (uN.calls (rd l0 x8_1) false _ A6.out).mono ?_); rintro e w' ⟨rfl, ⟨nd, rfl⟩⟩))
       go_roundg k1
       case measure => have := HK1.out; omega
       case rel => exact ⟨(wrap64 (x8_1 + 1)), (by first | rfl | (simp; done) | (simp [*]; done)), H', ⟨by have := HK1.out; omega⟩, by repeat (first | exact wI.refl _ | apply wI.step)⟩
     · rw [if_neg c5] at H; exact absurd H (by simp)
    · rw [if_neg c4] at H; exact absurd H (by simp)
   ·
    rw [if_neg c3] at H; have c3b0 : decide (x8_1 < (l0.length : Int)) = false := decide_eq_false c3; clear c3; obtain rfl := Option.some.inj H; go_wp2; go_ret
    exact ⟨by first | rfl | (simp; done) | (simp [*]; done), by repeat (first | exact wI.refl _ | apply wI.step)⟩
def qB.f (k : Nat) (l0 : List Int)  : Option (Bool) := (zZ.f k l0).bind fun t109 => (some (decide (t109 ≥ 0)))
set_option maxHeartbeats 8000000 in
set_option maxRecDepth 100000 in
theorem qB.calls (k : Nat) (A0 : Option Addr) (c0 : Nat) (l0 : List Int)  (r : Bool) (w : World) (hr0 : Kd.C (Kd.int .i64) w A0 l0.length l0) (hc0 : l0.length ≤ c0) (h : qB.f k l0 = some r) :
  Calls Tryd.prog 36 #[.slice A0 l0.length c0, .func (.func 37) #[] #[]] w fun e w' => e = .returned (.bool r) ∧ wI w w' := by
 have HR0 := zA.mk hr0; have HC0 := zA.mk hc0; clear hr0 hc0; have H : ((zZ.f k l0).bind fun t109 => (some (decide (t109 ≥ 0)))) = some r := h; clear h; replace H := Option.bind_eq_some_iff.mp H; obtain ⟨t109, A30, H⟩ := H; replace H : (some (decide (t109 ≥ 0))) = some r := H; have A3 := zA.mk A30; clear A30; obtain rfl := Option.some.inj H; go_enter Tryd.func36, Tryd.ntmps36
 go_wp2_with (first | ((with_reducible refine zQ (f := 57) rfl ?_); refine vN (some 7) rfl rfl Tryd.func57 (by kernel_rfl) rfl #[.slice A0 l0.length c0, .func (.func 37) #[] #[]] rfl (by (try simp only [List.map_toArray, List.map_cons, List.map_nil]); first | done | rfl | (simp only [List.length_drop, List.length_take]; rfl)) ?_; (with_reducible refine (zZ.calls k _ _ l0 t109 _ ?side1 ?side2 A3.out).mono ?_); (case side1 => repeat (first | exact HR0.out | (with_reducible refine Kd.zP ?_ _) | (with_reducible refine Kd.zO ?_ _) | (with_reducible refine Kd.zY ?_))); (case side2 => exact HC0.out); rintro e w' ⟨rfl, ⟨nd, rfl⟩⟩; refine ⟨_, rfl, ?_⟩))
 go_ret
 exact ⟨by first | rfl | (simp; done) | (simp [*]; done), by repeat (first | exact wI.refl _ | apply wI.step)⟩
def wB.l0 : Nat → List (List Int) → Int → Int → Option (Int)
 | 0, _, _, _ => none
 | k + 1, x0, x7, x8 => if x8 < x7 then (if 0 ≤ x8 then (if x8 < (x0.length : Int) then ((kO.f k (zW x0 x8)).bind fun t108 => (if t108 = true then (some x8) else (wB.l0 k x0 x7 (wrap64 (x8 + 1))))) else (none)) else (none)) else (some (-1))
def wB.f (k : Nat) (l0 : List (List Int))  : Option (Int) := wB.l0 k l0 (l0.length : Int) 0
set_option maxHeartbeats 8000000 in
set_option maxRecDepth 100000 in
theorem wB.calls (k : Nat) (A0 : Option Addr) (c0 : Nat) (l0 : List (List Int))  (r : Int) (w : World) (hr0 : Kd.C (Kd.slice 3 (Kd.int .i64)) w A0 l0.length l0) (hc0 : l0.length ≤ c0) (h : wB.f k l0 = some r) :
  Calls Tryd.prog 56 #[.slice A0 l0.length c0, .func (.func 38) #[] #[]] w fun e w' => e = .returned (.int .i64 r) ∧ wI w w' := by
 have HR0 := zA.mk hr0; have HC0 := zA.mk hc0; clear hr0 hc0; have H : (wB.l0 k l0 (l0.length : Int) 0) = some r := h; clear h; have H' := zA.mk H; clear H; go_enter Tryd.func56, Tryd.ntmps56
 go_wp2; go_loopg [8] k (fun kq v8 w' => ∃ (x8_1 : Int), v8 = .int .i64 x8_1 ∧ zA (wB.l0 kq l0 (l0.length : Int) x8_1 = some r) ∧ zA (kq ≤ k) ∧ wI w w')
 case atStart => exact ⟨(0), (by first | rfl | (simp; done) | (simp [*]; done)), H', ⟨Nat.le_refl _⟩, by repeat (first | exact wI.refl _ | apply wI.step)⟩
 case round =>
  clear H'; try clear p2
  obtain ⟨x8_1, rfl, HA, HK1, ⟨m1, rfl⟩⟩ := hrel
  cases gk with
  | zero => exact absurd HA.out (by simp [wB.l0])
  | succ k1 =>
   have H := HA.out; clear HA; simp only [wB.l0] at H; by_cases c3 : x8_1 < (l0.length : Int)
   ·
    rw [if_pos c3] at H; have c3b0 : decide (x8_1 < (l0.length : Int)) = true := decide_eq_true c3; clear c3; by_cases c4 : 0 ≤ x8_1
    ·
     rw [if_pos c4] at H; have c4b0 : decide (0 ≤ x8_1) = true := decide_eq_true c4; clear c4; by_cases c5 : x8_1 < (l0.length : Int)
     ·
      rw [if_pos c5] at H; have c5b0 : decide (x8_1 < (l0.length : Int)) = true := decide_eq_true c5; clear c5; replace H := Option.bind_eq_some_iff.mp H; obtain ⟨t108, A60, H⟩ := H; replace H : (if t108 = true then (some x8_1) else (wB.l0 k1 l0 (l0.length : Int) (wrap64 (x8_1 + 1)))) = some r := H; have A6 := zA.mk A60; clear A60; by_cases c7 : t108 = true
      ·
       subst c7; have H1 : (some x8_1) = some r := by rw [if_pos rfl] at H; exact H
       clear H; have H := H1; clear H1; obtain rfl := Option.some.inj H; have p107 : 0 ≤ (x8_1 : Int) := of_decide_eq_true (by first | (with_reducible assumption) | assumption); have q107 : x8_1 < (l0.length : Int) := of_decide_eq_true (by first | (with_reducible assumption) | assumption); obtain ⟨ad107, A107_0, c107_0, e107, zLP, hl107_0, hi107_0⟩ := kQ HR0.out x8_1 p107 q107; cases e107; have HR107_0 := zA.mk hi107_0; have HC107_0 := zA.mk hl107_0; clear hi107_0 hl107_0; replace p107 := eq_true p107; replace q107 := eq_true q107; go_wp2_with (first | (go_at_call 38; (with_reducible refine (kO.calls k1 _ _ (zW l0 x8_1) true _ ?side1 ?side2 A6.out).mono ?_); (case side1 => repeat (first | exact HR107_0.out | (with_reducible refine Kd.zP ?_ _) | (with_reducible refine Kd.zO ?_ _) | (with_reducible refine Kd.zY ?_))); (case side2 => exact HC107_0.out); rintro e w' ⟨rfl, ⟨nd, rfl⟩⟩))
       go_ret
       exact ⟨by first | rfl | (simp; done) | (simp [*]; done), by repeat (first | exact wI.refl _ | apply wI.step)⟩
      ·
       replace c7 := Bool.eq_false_iff.mpr c7; subst c7; have H1 : (wB.l0 k1 l0 (l0.length : Int) (wrap64 (x8_1 + 1))) = some r := by rw [if_neg (show ¬ (false = true) by decide)] at H; exact H
       clear H; have H := H1; clear H1; have H' := zA.mk H; clear H; have p107 : 0 ≤ (x8_1 : Int) := of_decide_eq_true (by first | (with_reducible assumption) | assumption); have q107 : x8_1 < (l0.length : Int) := of_decide_eq_true (by first | (with_reducible assumption) | assumption); obtain ⟨ad107, A107_0, c107_0, e107, zLP, hl107_0, hi107_0⟩ := kQ HR0.out x8_1 p107 q107; cases e107; have HR107_0 := zA.mk hi107_0; have HC107_0 := zA.mk hl107_0; clear hi107_0 hl107_0; replace p107 := eq_true p107; replace q107 := eq_true q107; go_wp2_with (first | (go_at_call 38; (with_reducible refine (kO.calls k1 _ _ (zW l0 x8_1) false _ ?side1 ?side2 A6.out).mono ?_); (case side1 => repeat (first | exact HR107_0.out | (with_reducible refine Kd.zP ?_ _) | (with_reducible refine Kd.zO ?_ _) | (with_reducible refine Kd.zY ?_))); (case side2 => exact HC107_0.out); rintro e w' ⟨rfl, ⟨nd, rfl⟩⟩))
       go_roundg k1
       case measure => have := HK1.out; omega
       case rel => exact ⟨(wrap64 (x8_1 + 1)), (by first | rfl | (simp; done) | (simp [*]; done)), H', ⟨by have := HK1.out; omega⟩, by repeat (first | exact wI.refl _ | apply wI.step)⟩
     · rw [if_neg c5] at H; exact absurd H (by simp)
    · rw [if_neg c4] at H; exact absurd H (by simp)
   ·
    rw [if_neg c3] at H; have c3b0 : decide (x8_1 < (l0.length : Int)) = false := decide_eq_false c3; clear c3; obtain rfl := Option.some.inj H; go_wp2; go_ret
    exact ⟨by first | rfl | (simp; done) | (simp [*]; done), by repeat (first | exact wI.refl _ | apply wI.step)⟩
def vL.f (k : Nat) (l0 : List (List Int))  : Option (Bool) := (wB.f k l0).bind fun t109 => (some (decide (t109 ≥ 0)))
set_option maxHeartbeats 8000000 in
set_option maxRecDepth 100000 in
theorem vL.calls (k : Nat) (A0 : Option Addr) (c0 : Nat) (l0 : List (List Int))  (r : Bool) (w : World) (hr0 : Kd.C (Kd.slice 3 (Kd.int .i64)) w A0 l0.length l0) (hc0 : l0.length ≤ c0) (h : vL.f k l0 = some r) :
  Calls Tryd.prog 34 #[.slice A0 l0.length c0, .func (.func 38) #[] #[]] w fun e w' => e = .returned (.bool r) ∧ wI w w' := by
 have HR0 := zA.mk hr0; have HC0 := zA.mk hc0; clear hr0 hc0; have H : ((wB.f k l0).bind fun t109 => (some (decide (t109 ≥ 0)))) = some r := h; clear h; replace H := Option.bind_eq_some_iff.mp H; obtain ⟨t109, A30, H⟩ := H; replace H : (some (decide (t109 ≥ 0))) = some r := H; have A3 := zA.mk A30; clear A30; obtain rfl := Option.some.inj H; go_enter Tryd.func34, Tryd.ntmps34
 go_wp2_with (first | ((with_reducible refine zQ (f := 56) rfl ?_); refine vN (some 7) rfl rfl Tryd.func56 (by kernel_rfl) rfl #[.slice A0 l0.length c0, .func (.func 38) #[] #[]] rfl (by (try simp only [List.map_toArray, List.map_cons, List.map_nil]); first | done | rfl | (simp only [List.length_drop, List.length_take]; rfl)) ?_; (with_reducible refine (wB.calls k _ _ l0 t109 _ ?side1 ?side2 A3.out).mono ?_); (case side1 => repeat (first | exact HR0.out | (with_reducible refine Kd.zP ?_ _) | (with_reducible refine Kd.zO ?_ _) | (with_reducible refine Kd.zY ?_))); (case side2 => exact HC0.out); rintro e w' ⟨rfl, ⟨nd, rfl⟩⟩; refine ⟨_, rfl, ?_⟩))
 go_ret
 exact ⟨by first | rfl | (simp; done) | (simp [*]; done), by repeat (first | exact wI.refl _ | apply wI.step)⟩
end Go.Proofs.YtmdfnambaedllaaDoor.Pr
namespace Go.Proofs.YtmdfnambaedllaaDoor.Pr
open Go.RowKit Go.Proofs.YtmdfnambaedllaaDoorW.PrintWords Go.Proofs.YtmdfnambaedllaaDoorW.PrintLast Go.Proofs.YtmdfnambaedllaaDoorW.PrintMore Go.Proofs.YtmdfnambaedllaaDoor.X
attribute [local go_sem] kJ kH zAS zAR uF uE kI kG   -- for this text's walks alone
set_option linter.unusedVariables false
set_option linter.unusedSimpArgs false
mutual
def zE.j0 : Nat → Int → Bool → List Int → List Int → List (List Int) → Int → Option (Int)
 | 0, _, _, _, _, _, _ => none
 | k + 1, x3, x15, kL, kK, jH, zKN => if x15 = true then (some 9) else (if x3 > 32 then (zE.j1 k x3 true kL kK jH zKN) else (zE.j1 k x3 (decide (zKN > 32)) kL kK jH zKN))
def zE.j1 : Nat → Int → Bool → List Int → List Int → List (List Int) → Int → Option (Int)
 | 0, _, _, _, _, _, _ => none
 | k + 1, x3, x22, kL, kK, jH, zKN => if x22 = true then (some 8) else (if (jH.length : Int) = x3 then ((qH.f k jH zKN).bind fun t112 => (zE.j2 k t112 kL kK jH)) else (zE.j2 k true kL kK jH))
def zE.j2 : Nat → Bool → List Int → List Int → List (List Int) → Option (Int)
 | 0, _, _, _, _ => none
 | k + 1, x29, kL, kK, jH => if x29 = true then (some 10) else ((qB.f k kL).bind fun t113 => (if t113 = true then (zE.j3 k true kL kK jH) else ((wY.f k kK).bind fun t114 => (zE.j3 k t114 kL kK jH))))
def zE.j3 : Nat → Bool → List Int → List Int → List (List Int) → Option (Int)
 | 0, _, _, _, _ => none
 | k + 1, x41, kL, kK, jH => if x41 = true then (some 2) else ((vL.f k jH).bind fun t115 => (if t115 = true then (some 2) else ((vI.f k kL).bind fun t116 => (if t116 = true then ((vI.f k kK).bind fun t117 => (if t117 = true then (zE.l0 k jH (jH.length : Int) 0 kL kK jH) else (some 5))) else (some 5)))))
def zE.l0 : Nat → List (List Int) → Int → Int → List Int → List Int → List (List Int) → Option (Int)
 | 0, _, _, _, _, _, _ => none
 | k + 1, x66, x67, x68, kL, kK, jH => if x68 < x67 then (if 0 ≤ x68 then (if x68 < (x66.length : Int) then (zE.l1 k x68 (zW x66 x68) x66 x67 x68 (zW x66 x68) ((zW x66 x68).length : Int) 0 kL kK jH) else (none)) else (none)) else (some 0)
def zE.l1 : Nat → Int → List Int → List (List Int) → Int → Int → List Int → Int → Int → List Int → List Int → List (List Int) → Option (Int)
 | 0, _, _, _, _, _, _, _, _, _, _, _ => none
 | k + 1, x5, x6, x66, x67, x68, x73, x74, x75, kL, kK, jH => if x75 < x74 then (if 0 ≤ x75 then (if x75 < (x73.length : Int) then (if x75 > 0 then (if 0 ≤ (wrap64 (x75 - 1)) then (if (wrap64 (x75 - 1)) < (x6.length : Int) then (if (rd x73 x75) < (rd x6 (wrap64 (x75 - 1))) then (some 18) else (if x5 > 0 then (if 0 ≤ (wrap64 (x5 - 1)) then (if (wrap64 (x5 - 1)) < (jH.length : Int) then (if x75 < ((zW jH (wrap64 (x5 - 1))).length : Int) then (if (rd x73 x75) > (rd (zW jH (wrap64 (x5 - 1))) x75) then (some 18) else (zE.l1 k x5 x6 x66 x67 x68 x73 x74 (wrap64 (x75 + 1)) kL kK jH)) else (none)) else (none)) else (none)) else (zE.l1 k x5 x6 x66 x67 x68 x73 x74 (wrap64 (x75 + 1)) kL kK jH))) else (none)) else (none)) else (if x5 > 0 then (if 0 ≤ (wrap64 (x5 - 1)) then (if (wrap64 (x5 - 1)) < (jH.length : Int) then (if x75 < ((zW jH (wrap64 (x5 - 1))).length : Int) then (if (rd x73 x75) > (rd (zW jH (wrap64 (x5 - 1))) x75) then (some 18) else (zE.l1 k x5 x6 x66 x67 x68 x73 x74 (wrap64 (x75 + 1)) kL kK jH)) else (none)) else (none)) else (none)) else (zE.l1 k x5 x6 x66 x67 x68 x73 x74 (wrap64 (x75 + 1)) kL kK jH))) else (none)) else (none)) else (zE.l0 k x66 x67 (wrap64 (x68 + 1)) kL kK jH)
end
def zE.f (k : Nat) (l0_0 : List Int) (l0_1 : List Int) (l0_2 : List (List Int)) : Option (Int) := if (l0_0.length : Int) < 2 then (zE.j0 k (l0_0.length : Int) true l0_0 l0_1 l0_2 (l0_1.length : Int)) else (zE.j0 k (l0_0.length : Int) (decide ((l0_1.length : Int) < 2)) l0_0 l0_1 l0_2 (l0_1.length : Int))
def zE.T1 : Bool × List (List Nat × List Nat) := (true, [([], []), ([0], [0]), ([1], [1]), ([], []), ([3], [3]), ([4], [4]), ([], []), ([2, 0, 1, 2, 6], [2]), ([6, 5, 7, 0, 1, 2, 3, 4, 5, 6, 7], [5, 6])])
def zE.B1 : List Nat := [0, 1, 3, 0, 8, 24, 0, 71, 255]
theorem zE.tab1 : rtab .any (opsOf Tryd.f18 1) = zE.T1 := by kernel_rfl
theorem zE.bits1 : zCI zE.T1.2 zE.B1 = true := by kernel_rfl
set_option maxHeartbeats 8000000 in
set_option maxRecDepth 100000 in
theorem zE.calls (k : Nat) (A0_0 : Option Addr) (c0_0 : Nat) (l0_0 : List Int) (A0_1 : Option Addr) (c0_1 : Nat) (l0_1 : List Int) (A0_2 : Option Addr) (c0_2 : Nat) (l0_2 : List (List Int)) (r : Int) (w : World) (hr0_0 : Kd.C (Kd.int .i64) w A0_0 l0_0.length l0_0) (zAW : l0_0.length ≤ c0_0) (hr0_1 : Kd.C (Kd.int .i64) w A0_1 l0_1.length l0_1) (zAV : l0_1.length ≤ c0_1) (hr0_2 : Kd.C (Kd.slice 3 (Kd.int .i64)) w A0_2 l0_2.length l0_2) (zAU : l0_2.length ≤ c0_2) (h : zE.f k l0_0 l0_1 l0_2 = some r) :
  Calls Tryd.prog 18 #[.agg #[.slice A0_0 l0_0.length c0_0, .slice A0_1 l0_1.length c0_1, .slice A0_2 l0_2.length c0_2]] w fun e w' => e = .returned (.int .i64 r) ∧ Below w.heap.size w w' := by
 have hu25 := Tryd.underlying25; have hu3 := Tryd.underlying3; have HR0_0 := zA.mk hr0_0; have HC0_0 := zA.mk zAW; clear hr0_0 zAW; have HR0_1 := zA.mk hr0_1; have HC0_1 := zA.mk zAV; clear hr0_1 zAV; have HR0_2 := zA.mk hr0_2; have HC0_2 := zA.mk zAU; clear hr0_2 zAU; have HB := zA.mk (Below.refl w.heap.size w); have H : (if (l0_0.length : Int) < 2 then (zE.j0 k (l0_0.length : Int) true l0_0 l0_1 l0_2 (l0_1.length : Int)) else (zE.j0 k (l0_0.length : Int) (decide ((l0_1.length : Int) < 2)) l0_0 l0_1 l0_2 (l0_1.length : Int))) = some r := h; clear h; have HC2 := zA.mk H; clear H; go_enter Tryd.func18, Tryd.ntmps18
 try go_wp2_with (first | ((with_reducible refine vH (N := 1) rfl ?_); refine vD ?hg (N := 1) ?hd (cs := #[.slice A0_0 l0_0.length c0_0, .slice A0_1 l0_1.length c0_1, .slice A0_2 l0_2.length c0_2]) (t := 25) ?hr ?_; (case hd => rfl); (case hg => rfl); (case hr => first | (go_simp; done) | (go_simp; rfl)); intro uH hg w3 hbox hb; have n0_ := zA.mk (zG (eG HB.out) hb); have n1_ := zA.mk (hbox); have n2_ := zA.mk ((by rw [hg]; exact (zD (eG HB.out)) : w.heap.size ≤ uH)); have n3_ := zA.mk ((by rw [hg]; exact (zD (eG HB.out)) : w.heap.size ≤ uH)); clear HB; have HB := n0_; have qK := n1_; have GW110 := n2_; have GE110 := n3_; have ig110_ := geI GE110; clear n0_ n1_ n2_ n3_; clear hb hbox hg))
 have n0_ := zA.mk (zBW qK.out); have n1_ := zA.mk (kC HB.out); clear qK; clear HB; have qK := n0_; have HB := n1_; clear n0_ n1_; refine zJS (n := 9) (S := fun w' => w'.cell? ⟨uH, 0, none⟩ = some (.slice A0_0 l0_0.length c0_0) ∧ w'.cell? ⟨uH, 1, none⟩ = some (.slice A0_1 l0_1.length c0_1) ∧ w'.cell? ⟨uH, 2, none⟩ = some (.slice A0_2 l0_2.length c0_2)) (ds := []) #[false, false, false, false, false, false, false, false, false] (by kernel_rfl) rfl rfl ⟨(zC qK.out 0).trans rfl, (zC qK.out 1).trans rfl, (zC qK.out 2).trans rfl⟩ (fun hHeld => ?_); refine zCD zE.tab1 zE.bits1 (fun HT_ HW_ => ?_)
 generalize w3.drew = w4 at qK HB hHeld ⊢; refine qG (i := 0) (N := some 9) (v := ?_) (a' := ?_) #[true, false, false, false, false, false, false, false, false] rfl rfl (vG HT_.out (by kernel_rfl)) (fun _ _ _ h => h) (Or.inl ⟨by rfl, ?_⟩) ?_ ?_; rotate_left
 · intro w'; go_simp; with_reducible rfl
 rotate_left
 · simp only [Act.put, sIA, sC0, sCS, wX, vB]; rfl
 refine qG (i := 3) (N := some 12) (v := ?_) (a' := ?_) #[true, false, false, true, false, false, false, false, false] rfl rfl (vG HT_.out (by kernel_rfl)) (fun _ _ _ h => h) (Or.inl ⟨by rfl, ?_⟩) ?_ ?_; rotate_left
 · intro w'; go_simp; with_reducible rfl
 rotate_left
 · simp only [Act.put, sIA, sC0, sCS, wX, vB]; rfl
 refine kS (i := 1) (N := some 10) (v := ?_) (a' := ?_) #[true, true, false, true, false, false, false, false, false] rfl rfl (qZ HT_.out HW_.out (by kernel_rfl)) (fun _ _ _ h => h) (Or.inl ⟨by rfl, ?_⟩) hHeld ?_ ?_; rotate_left
 · rintro w' ⟨s0, s1, s2⟩; go_simp; with_reducible rfl
 rotate_left
 · simp only [Act.put, sIA, sC0, sCS, wX, vB]; rfl
 refine qG (i := 2) (N := some 11) (v := ?_) (a' := ?_) #[true, true, true, true, false, false, false, false, false] rfl rfl (vG HT_.out (by kernel_rfl)) (fun _ _ _ h => h) (Or.inl ⟨by rfl, ?_⟩) ?_ ?_; rotate_left
 · intro w'; go_simp; with_reducible rfl
 rotate_left
 · simp only [Act.put, sIA, sC0, sCS, wX, vB]; rfl
 refine kS (i := 4) (N := some 13) (v := ?_) (a' := ?_) #[true, true, true, true, true, false, false, false, false] rfl rfl (qZ HT_.out HW_.out (by kernel_rfl)) (fun _ _ _ h => h) (Or.inl ⟨by rfl, ?_⟩) hHeld ?_ ?_; rotate_left
 · rintro w' ⟨s0, s1, s2⟩; go_simp; with_reducible rfl
 rotate_left
 · simp only [Act.put, sIA, sC0, sCS, wX, vB]; rfl
 refine qG (i := 5) (N := some 14) (v := ?_) (a' := ?_) #[true, true, true, true, true, true, false, false, false] rfl rfl (vG HT_.out (by kernel_rfl)) (fun _ _ _ h => h) (Or.inl ⟨by rfl, ?_⟩) ?_ ?_; rotate_left
 · intro w'; go_simp; with_reducible rfl
 rotate_left
 · simp only [Act.put, sIA, sC0, sCS, wX, vB]; rfl
 refine one_ (i := 6) (N := some 4) #[true, true, true, true, true, true, true, false, false] rfl rfl (zDL HT_.out (by kernel_rfl)) (by decide) (fun K hK => ?_); refine zTW ?hg (N := 4) ?hd (cs := #[.int .i64 0]) (t := 3) ?hr ?_; (case hd => rfl); (case hg => rfl); (case hr => first | (go_simp; done) | (go_simp; rfl))
 intro zFU hg w5 hbox hb; have n0_ := zA.mk (zM (bG qK.out) hb); have n1_ := zA.mk (zG (eG HB.out) hb); have n2_ := zA.mk (hbox); have n3_ := zA.mk ((by rw [hg]; exact (zD (eG HB.out)) : w.heap.size ≤ zFU)); have n4_ := zA.mk ((by rw [hg]; exact (zD (eG HB.out)) : w.heap.size ≤ zFU)); have n5_ := zA.mk ((by rw [hg]; exact Nat.ne_of_lt (yG (bG qK.out)) : uH ≠ zFU)); have n6_ := zA.mk ((by rw [hg]; exact Nat.ne_of_gt (yG (bG qK.out)) : zFU ≠ uH)); clear qK; clear HB; have qK := n0_; have HB := n1_; have zBY := n2_; have GW111 := n3_; have GE111 := n4_; have ig111_ := geI GE111
 have yZ := n5_; have uP := n6_; clear n0_ n1_ n2_ n3_ n4_ n5_ n6_; clear hb hbox hg; refine hK.out _ _ ⟨(zC qK.out 0).trans rfl, (zC qK.out 1).trans rfl, (zC qK.out 2).trans rfl⟩ (fun hHeld => ?_); clear hK K; refine zEW (a' := ?_) ?_ ?_; rotate_left
 ·
  show Act.put _ (some 4) _ = _
  simp only [Act.put, sIA, sC0, sCS, wX, vB]; rfl
 refine qG (i := 7) (N := some 3) (v := ?_) (a' := ?_) #[true, true, true, true, true, true, true, true, false] rfl rfl (vG HT_.out (by kernel_rfl)) (fun _ _ _ h => h) (Or.inl ⟨by rfl, ?_⟩) ?_ ?_; rotate_left
 · intro w'; go_simp; with_reducible rfl
 rotate_left
 · simp only [Act.put, sIA, sC0, sCS, wX, vB]; rfl
 refine one_ (i := 8) (N := none) #[true, true, true, true, true, true, true, true, true] rfl rfl (zDL HT_.out (by kernel_rfl)) (by decide) (fun K hK => ?_); have hs6 : w5.cell? ⟨zFU, 0, none⟩ = some (.int .i64 0) := (zC zBY.out 0).trans rfl; have hfs6 := zB zBY.out 0; have hns6_0 := yZ.out; have hms6_0 := uP.out; refine skip_ (w1 := ?_) (by rfl) rfl ?_ ?_; rotate_left
 · go_simp; rfl
 refine hK.out _ _ ⟨((cell_far (p := ⟨zFU, _, none⟩) yZ.out _).trans (hHeld.1)), ((cell_far (p := ⟨zFU, _, none⟩) yZ.out _).trans (hHeld.2.1)), ((cell_far (p := ⟨zFU, _, none⟩) yZ.out _).trans (hHeld.2.2))⟩ (fun hHeld => ?_); clear hK K; refine zQU (zFW HT_.out (by kernel_rfl)) ?_; go_upto_region 2 with (fail)
 go_cut [15] (fun v15 wc => ∃ (kq : Nat) (x15_1 : Bool), v15 = .bool x15_1 ∧ zA (zE.j0 kq (l0_0.length : Int) x15_1 l0_0 l0_1 l0_2 (l0_1.length : Int) = some r) ∧ zA (kq ≤ k) ∧ zA (wc.heap[uH]? = some (.cells #[(.slice A0_0 l0_0.length c0_0), (.slice A0_1 l0_1.length c0_1), (.slice A0_2 l0_2.length c0_2)] 25 (0, 0))) ∧ zA (wc.heap[zFU]? = some (.cells #[.int .i64 (l0_1.length : Int)] 3 (0, 0))) ∧ zA (Below w.heap.size w wc))
 case first =>
  have H := HC2.out; clear HC2; by_cases c7 : (l0_0.length : Int) < 2
  ·
   rw [if_pos c7] at H; have c7b0 : decide ((l0_0.length : Int) < 2) = true := decide_eq_true c7; have c7b1 : decide (l0_0.length < 2) = true := decide_eq_true (by omega); clear c7; (first | rw [c7b0] | (simp only [wX, vB]; rw [c7b0]) | skip)
   have H' := zA.mk H; clear H; go_wp2; go_meet
   case rel => exact ⟨_, (true), (by first | rfl | (simp; done) | (simp [*]; done)), H', ⟨by first | omega | exact Nat.le_refl _⟩, ⟨by (with_reducible repeat first | apply bN | apply bD | apply bA); refine yL ?_ yZ.out _; (with_reducible repeat first | apply bN | apply bD | apply bA); exact qK.out⟩, ⟨by (with_reducible repeat first | apply bN | apply bD | apply bA); refine vA (cs := #[.int .i64 0]) ?_ 0 _ rfl; (with_reducible repeat first | apply bN | apply bD | apply bA); exact zBY.out⟩, ⟨eG HB.out⟩⟩
  ·
   rw [if_neg c7] at H; have c7b0 : decide ((l0_0.length : Int) < 2) = false := decide_eq_false c7; have c7b1 : decide (l0_0.length < 2) = false := decide_eq_false (by omega); clear c7; (first | rw [c7b0] | (simp only [wX, vB]; rw [c7b0]) | skip)
   have H' := zA.mk H; clear H; have hnb8 := uP.out; have hnc8 := yZ.out; have zEG : w5.cell? ⟨zFU, 0, none⟩ = some (.int .i64 0) := (zC zBY.out 0).trans rfl; have zED := zB zBY.out 0; go_wp2; go_meet
   case rel => exact ⟨_, (decide ((l0_1.length : Int) < 2)), (by first | rfl | (simp; done) | (simp [*]; done)), H', ⟨by first | omega | exact Nat.le_refl _⟩, ⟨by (with_reducible repeat first | apply bN | apply bD | apply bA); refine yL ?_ yZ.out _; (with_reducible repeat first | apply bN | apply bD | apply bA); exact qK.out⟩, ⟨by (with_reducible repeat first | apply bN | apply bD | apply bA); refine vA (cs := #[.int .i64 0]) ?_ 0 _ rfl; (with_reducible repeat first | apply bN | apply bD | apply bA); exact zBY.out⟩, ⟨eG HB.out⟩⟩
 case rest =>
  clear HC2; repeat first | clear c1 | clear p2 | clear c7 | clear c7b0 | clear c7b1 | clear c8 | clear zEG | clear zED
  obtain ⟨kq, x15_1, rfl, HA, HJ1, qK, zBY, HB⟩ := hcut
  cases kq with
  | zero => exact absurd HA.out (by simp [zE.j0])
  | succ kj1 =>
   have H := HA.out; clear HA; simp only [zE.j0] at H; by_cases c10 : x15_1 = true
   ·
    subst c10; replace H : (some 9) = some r := by rw [if_pos rfl] at H; exact H
    obtain rfl := Option.some.inj H; go_wp2; go_ret
    exact ⟨by first | rfl | (simp [zI, zH] <;> rfl) | (simp [*, zI, zH] <;> rfl), eG HB.out⟩
   ·
    replace c10 := Bool.eq_false_iff.mpr c10; subst c10; replace H : (if (l0_0.length : Int) > 32 then (zE.j1 kj1 (l0_0.length : Int) true l0_0 l0_1 l0_2 (l0_1.length : Int)) else (zE.j1 kj1 (l0_0.length : Int) (decide ((l0_1.length : Int) > 32)) l0_0 l0_1 l0_2 (l0_1.length : Int))) = some r := by rw [if_neg (show ¬ (false = true) by decide)] at H; exact H
    have HC11 := zA.mk H; clear H; go_upto_region 4 with (fail)
    go_cut [22] (fun v22 wc => ∃ (kq : Nat) (x22_10 : Bool), v22 = .bool x22_10 ∧ zA (zE.j1 kq (l0_0.length : Int) x22_10 l0_0 l0_1 l0_2 (l0_1.length : Int) = some r) ∧ zA (kq ≤ kj1) ∧ zA (wc.heap[uH]? = some (.cells #[(.slice A0_0 l0_0.length c0_0), (.slice A0_1 l0_1.length c0_1), (.slice A0_2 l0_2.length c0_2)] 25 (0, 0))) ∧ zA (wc.heap[zFU]? = some (.cells #[.int .i64 (l0_1.length : Int)] 3 (0, 0))) ∧ zA (Below w.heap.size w wc))
    case first =>
     have H := HC11.out; clear HC11; by_cases c12 : (l0_0.length : Int) > 32
     ·
      rw [if_pos c12] at H; have c12b0 : decide (32 < (l0_0.length : Int)) = true := decide_eq_true c12; have c12b1 : decide (32 < l0_0.length) = true := decide_eq_true (by omega); clear c12; (first | rw [c12b0] | (simp only [wX, vB]; rw [c12b0]) | skip)
      have H' := zA.mk H; clear H; go_wp2; go_meet
      case rel => exact ⟨_, (true), (by first | rfl | (simp; done) | (simp [*]; done)), H', ⟨by have := HJ1.out; first | omega | exact Nat.le_refl _⟩, ⟨by (with_reducible repeat first | apply bN | apply bD | apply bA); exact qK.out⟩, ⟨by (with_reducible repeat first | apply bN | apply bD | apply bA); exact zBY.out⟩, ⟨eG HB.out⟩⟩
     ·
      rw [if_neg c12] at H; have c12b0 : decide (32 < (l0_0.length : Int)) = false := decide_eq_false c12; have c12b1 : decide (32 < l0_0.length) = false := decide_eq_false (by omega); clear c12; (first | rw [c12b0] | (simp only [wX, vB]; rw [c12b0]) | skip)
      have H' := zA.mk H; clear H; have hnb13 := uP.out; have hnc13 := yZ.out; have zDB : wc.cell? ⟨zFU, 0, none⟩ = some (.int .i64 (l0_1.length : Int)) := (zC zBY.out 0).trans rfl; have zCY := zB zBY.out 0; go_wp2; go_meet
      case rel => exact ⟨_, (decide ((l0_1.length : Int) > 32)), (by first | rfl | (simp; done) | (simp [*]; done)), H', ⟨by have := HJ1.out; first | omega | exact Nat.le_refl _⟩, ⟨by (with_reducible repeat first | apply bN | apply bD | apply bA); exact qK.out⟩, ⟨by (with_reducible repeat first | apply bN | apply bD | apply bA); exact zBY.out⟩, ⟨eG HB.out⟩⟩
    case rest =>
     clear HC11; repeat first | clear c1 | clear p2 | clear c7 | clear c7b0 | clear c7b1 | clear c8 | clear c10 | clear c12 | clear c12b0 | clear c12b1 | clear c13 | clear zDB | clear zEG | clear zCY | clear zED | clear p2
     obtain ⟨kq, x22_10, rfl, HA, HJ10, qK, zBY, HB⟩ := hcut
     cases kq with
     | zero => exact absurd HA.out (by simp [zE.j1])
     | succ kj10 =>
      have H := HA.out; clear HA; simp only [zE.j1] at H; by_cases c15 : x22_10 = true
      ·
       subst c15; replace H : (some 8) = some r := by rw [if_pos rfl] at H; exact H
       obtain rfl := Option.some.inj H; go_wp2; go_ret
       exact ⟨by first | rfl | (simp [zI, zH] <;> rfl) | (simp [*, zI, zH] <;> rfl), eG HB.out⟩
      ·
       replace c15 := Bool.eq_false_iff.mpr c15; subst c15; replace H : (if (l0_2.length : Int) = (l0_0.length : Int) then ((qH.f kj10 l0_2 (l0_1.length : Int)).bind fun t112 => (zE.j2 kj10 t112 l0_0 l0_1 l0_2)) else (zE.j2 kj10 true l0_0 l0_1 l0_2)) = some r := by rw [if_neg (show ¬ (false = true) by decide)] at H; exact H
       have HC16 := zA.mk H; clear H; go_upto_region 6 with (fail)
       go_cut [29] (fun v29 wc => ∃ (kq : Nat) (x29_15 : Bool), v29 = .bool x29_15 ∧ zA (zE.j2 kq x29_15 l0_0 l0_1 l0_2 = some r) ∧ zA (kq ≤ kj10) ∧ zA (wc.heap[uH]? = some (.cells #[(.slice A0_0 l0_0.length c0_0), (.slice A0_1 l0_1.length c0_1), (.slice A0_2 l0_2.length c0_2)] 25 (0, 0))) ∧ zA (wc.heap[zFU]? = some (.cells #[.int .i64 (l0_1.length : Int)] 3 (0, 0))) ∧ zA (Below w.heap.size w wc))
       case first =>
        have H := HC16.out; clear HC16; by_cases c17 : (l0_2.length : Int) = (l0_0.length : Int)
        ·
         rw [if_pos c17] at H; have c17b0 : ((l0_2.length : Int) == (l0_0.length : Int)) = true := beq_iff_eq.mpr c17; have c17b1 : ((l0_2.length : Int) != (l0_0.length : Int)) = false := bne_eq_false_iff_eq.mpr c17; have c17b2 : (l0_2.length == l0_0.length) = true := by first | simpa using c17 | (simp at c17 ⊢; omega)
         clear c17; (first | rw [c17b0] | (simp only [wX, vB]; rw [c17b0]) | skip)
         replace H := Option.bind_eq_some_iff.mp H; obtain ⟨t112, A180, H⟩ := H; replace H : (zE.j2 kj10 t112 l0_0 l0_1 l0_2) = some r := H; have A18 := zA.mk A180; clear A180; have H' := zA.mk H; clear H; have hnb19 := yZ.out; have hnc19 := uP.out; have zJF : wc.cell? ⟨uH, 0, none⟩ = some (.slice A0_0 l0_0.length c0_0) := (zC qK.out 0).trans rfl; have zJE : wc.cell? ⟨uH, 1, none⟩ = some (.slice A0_1 l0_1.length c0_1) := (zC qK.out 1).trans rfl; have zJD : wc.cell? ⟨uH, 2, none⟩ = some (.slice A0_2 l0_2.length c0_2) := (zC qK.out 2).trans rfl; have zIS := zB qK.out 0; have zIR := zB qK.out 1; have zIQ := zB qK.out 2; go_wp2_with (first | (go_at_call 34; (with_reducible refine (qH.calls kj10 _ _ l0_2  zFU (l0_1.length : Int) t112 _ ?side1 ?side2 ?side3 A18.out).mono ?_); (case side1 => repeat (first | exact (Kd.zX HR0_2.out HB.out) | (with_reducible refine Kd.zP ?_ _) | (with_reducible refine Kd.zO ?_ _) | (with_reducible refine Kd.zY ?_))); (case side2 => exact HC0_2.out); (case side3 => (with_reducible repeat first | apply bN | apply bD | apply bA); exact zBY.out); rintro e w' ⟨rfl, ⟨nd, rfl⟩⟩))
         go_meet
         case rel => exact ⟨_, (t112), (by first | rfl | (simp; done) | (simp [*]; done)), H', ⟨by have := HJ1.out; have := HJ10.out; first | omega | exact Nat.le_refl _⟩, ⟨by (with_reducible repeat first | apply bN | apply bD | apply bA); exact qK.out⟩, ⟨by (with_reducible repeat first | apply bN | apply bD | apply bA); exact zBY.out⟩, ⟨eG HB.out⟩⟩
        ·
         rw [if_neg c17] at H; have c17b0 : ((l0_2.length : Int) == (l0_0.length : Int)) = false := beq_eq_false_iff_ne.mpr c17; have c17b1 : ((l0_2.length : Int) != (l0_0.length : Int)) = true := bne_iff_ne.mpr c17; have c17b2 : (l0_2.length == l0_0.length) = false := by first | simpa using c17 | (simp at c17 ⊢; omega)
         (first | rw [c17b0] | (simp only [wX, vB]; rw [c17b0]) | skip)
         have H' := zA.mk H; clear H; have hnb21 := yZ.out; have hnc21 := uP.out; have zPB : wc.cell? ⟨uH, 0, none⟩ = some (.slice A0_0 l0_0.length c0_0) := (zC qK.out 0).trans rfl; have zPA : wc.cell? ⟨uH, 1, none⟩ = some (.slice A0_1 l0_1.length c0_1) := (zC qK.out 1).trans rfl; have zOZ : wc.cell? ⟨uH, 2, none⟩ = some (.slice A0_2 l0_2.length c0_2) := (zC qK.out 2).trans rfl; have zOK := zB qK.out 0; have zOJ := zB qK.out 1; have zOI := zB qK.out 2; go_wp2; go_meet
         case rel => exact ⟨_, (true), (by first | rfl | (simp; done) | (simp [*]; done)), H', ⟨by have := HJ1.out; have := HJ10.out; first | omega | exact Nat.le_refl _⟩, ⟨by (with_reducible repeat first | apply bN | apply bD | apply bA); exact qK.out⟩, ⟨by (with_reducible repeat first | apply bN | apply bD | apply bA); exact zBY.out⟩, ⟨eG HB.out⟩⟩
       case rest =>
        clear HC16; repeat first | clear c1 | clear c2 | clear p2 | clear c7 | clear c7b0 | clear c7b1 | clear c8 | clear c10 | clear c12 | clear c12b0 | clear c12b1 | clear c13 | clear c15 | clear c17 | clear c17b0 | clear c17b1 | clear c17b2 | clear c18 | clear c19 | clear c21 | clear zDB | clear zJF | clear zJE | clear zJD | clear zPB | clear zPA | clear zOZ | clear zEG | clear zCY | clear zIS | clear zIR | clear zIQ | clear zOK | clear zOJ | clear zOI | clear zED | clear p2
        obtain ⟨kq, x29_15, rfl, HA, HJ15, qK, zBY, HB⟩ := hcut
        cases kq with
        | zero => exact absurd HA.out (by simp [zE.j2])
        | succ kj15 =>
         have H := HA.out; clear HA; simp only [zE.j2] at H; by_cases c23 : x29_15 = true
         ·
          subst c23; replace H : (some 10) = some r := by rw [if_pos rfl] at H; exact H
          obtain rfl := Option.some.inj H; go_wp2; go_ret
          exact ⟨by first | rfl | (simp [zI, zH] <;> rfl) | (simp [*, zI, zH] <;> rfl), eG HB.out⟩
         ·
          replace c23 := Bool.eq_false_iff.mpr c23; subst c23; replace H : ((qB.f kj15 l0_0).bind fun t113 => (if t113 = true then (zE.j3 kj15 true l0_0 l0_1 l0_2) else ((wY.f kj15 l0_1).bind fun t114 => (zE.j3 kj15 t114 l0_0 l0_1 l0_2)))) = some r := by rw [if_neg (show ¬ (false = true) by decide)] at H; exact H
          have HC24 := zA.mk H; clear H; go_upto_region 8 with (fail)
          go_cut [41] (fun v41 wc => ∃ (kq : Nat) (x41_23 : Bool), v41 = .bool x41_23 ∧ zA (zE.j3 kq x41_23 l0_0 l0_1 l0_2 = some r) ∧ zA (kq ≤ kj15) ∧ zA (wc.heap[uH]? = some (.cells #[(.slice A0_0 l0_0.length c0_0), (.slice A0_1 l0_1.length c0_1), (.slice A0_2 l0_2.length c0_2)] 25 (0, 0))) ∧ zA (wc.heap[zFU]? = some (.cells #[.int .i64 (l0_1.length : Int)] 3 (0, 0))) ∧ zA (Below w.heap.size w wc))
          case first =>
           have H := HC24.out; clear HC24; replace H := Option.bind_eq_some_iff.mp H; obtain ⟨t113, A250, H⟩ := H; replace H : (if t113 = true then (zE.j3 kj15 true l0_0 l0_1 l0_2) else ((wY.f kj15 l0_1).bind fun t114 => (zE.j3 kj15 t114 l0_0 l0_1 l0_2))) = some r := H; have A25 := zA.mk A250; clear A250; by_cases c26 : t113 = true
           ·
            subst c26; replace H : (zE.j3 kj15 true l0_0 l0_1 l0_2) = some r := by rw [if_pos rfl] at H; exact H
            have H' := zA.mk H; clear H; have hnb27 := yZ.out; have hnc27 := uP.out; have zLX : wc.cell? ⟨uH, 0, none⟩ = some (.slice A0_0 l0_0.length c0_0) := (zC qK.out 0).trans rfl; have zLW : wc.cell? ⟨uH, 1, none⟩ = some (.slice A0_1 l0_1.length c0_1) := (zC qK.out 1).trans rfl; have zLV : wc.cell? ⟨uH, 2, none⟩ = some (.slice A0_2 l0_2.length c0_2) := (zC qK.out 2).trans rfl; have zLS := zB qK.out 0; have zLR := zB qK.out 1; have zLQ := zB qK.out 2; go_wp2_with (first | ((with_reducible refine zQ (f := 36) rfl ?_); refine vN (some 44) rfl rfl Tryd.func36 (by kernel_rfl) rfl #[.slice A0_0 l0_0.length c0_0, .func (.func 37) #[] #[]] rfl (by (try simp only [List.map_toArray, List.map_cons, List.map_nil]); first | done | rfl | (simp only [List.length_drop, List.length_take]; rfl)) ?_; (with_reducible refine (qB.calls kj15 _ _ l0_0 true _ ?side1 ?side2 A25.out).mono ?_); (case side1 => repeat (first | exact (Kd.zX HR0_0.out HB.out) | (with_reducible refine Kd.zP ?_ _) | (with_reducible refine Kd.zO ?_ _) | (with_reducible refine Kd.zY ?_))); (case side2 => exact HC0_0.out); rintro e w' ⟨rfl, ⟨nd, rfl⟩⟩; refine ⟨_, rfl, ?_⟩))
            go_meet
            case rel => exact ⟨_, (true), (by first | rfl | (simp; done) | (simp [*]; done)), H', ⟨by have := HJ1.out; have := HJ10.out; have := HJ15.out; first | omega | exact Nat.le_refl _⟩, ⟨by (with_reducible repeat first | apply bN | apply bD | apply bA); exact qK.out⟩, ⟨by (with_reducible repeat first | apply bN | apply bD | apply bA); exact zBY.out⟩, ⟨eG HB.out⟩⟩
           ·
            replace c26 := Bool.eq_false_iff.mpr c26; subst c26; replace H : ((wY.f kj15 l0_1).bind fun t114 => (zE.j3 kj15 t114 l0_0 l0_1 l0_2)) = some r := by rw [if_neg (show ¬ (false = true) by decide)] at H; exact H
            replace H := Option.bind_eq_some_iff.mp H; obtain ⟨t114, A290, H⟩ := H; replace H : (zE.j3 kj15 t114 l0_0 l0_1 l0_2) = some r := H; have A29 := zA.mk A290; clear A290; have H' := zA.mk H; clear H; have hnb30 := yZ.out; have hnc30 := uP.out; have zOW : wc.cell? ⟨uH, 0, none⟩ = some (.slice A0_0 l0_0.length c0_0) := (zC qK.out 0).trans rfl; have zOV : wc.cell? ⟨uH, 1, none⟩ = some (.slice A0_1 l0_1.length c0_1) := (zC qK.out 1).trans rfl; have zOU : wc.cell? ⟨uH, 2, none⟩ = some (.slice A0_2 l0_2.length c0_2) := (zC qK.out 2).trans rfl; have zOF := zB qK.out 0; have zOE := zB qK.out 1; have zOD := zB qK.out 2; go_wp2_with (first | ((with_reducible refine zQ (f := 36) rfl ?_); refine vN (some 44) rfl rfl Tryd.func36 (by kernel_rfl) rfl #[.slice A0_0 l0_0.length c0_0, .func (.func 37) #[] #[]] rfl (by (try simp only [List.map_toArray, List.map_cons, List.map_nil]); first | done | rfl | (simp only [List.length_drop, List.length_take]; rfl)) ?_; (with_reducible refine (qB.calls kj15 _ _ l0_0 false _ ?side1 ?side2 A25.out).mono ?_); (case side1 => repeat (first | exact (Kd.zX HR0_0.out HB.out) | (with_reducible refine Kd.zP ?_ _) | (with_reducible refine Kd.zO ?_ _) | (with_reducible refine Kd.zY ?_))); (case side2 => exact HC0_0.out); rintro e w' ⟨rfl, ⟨nd, rfl⟩⟩; refine ⟨_, rfl, ?_⟩) | (go_at_call 36; (with_reducible refine (wY.calls kj15 _ _ l0_1 t114 _ ?side1 ?side2 A29.out).mono ?_); (case side1 => repeat (first | exact (Kd.zX HR0_1.out (eG HB.out)) | (with_reducible refine Kd.zP ?_ _) | (with_reducible refine Kd.zO ?_ _) | (with_reducible refine Kd.zY ?_))); (case side2 => exact HC0_1.out); rintro e w' ⟨rfl, ⟨nd, rfl⟩⟩))
            go_meet
            case rel => exact ⟨_, (t114), (by first | rfl | (simp; done) | (simp [*]; done)), H', ⟨by have := HJ1.out; have := HJ10.out; have := HJ15.out; first | omega | exact Nat.le_refl _⟩, ⟨by (with_reducible repeat first | apply bN | apply bD | apply bA); exact qK.out⟩, ⟨by (with_reducible repeat first | apply bN | apply bD | apply bA); exact zBY.out⟩, ⟨eG HB.out⟩⟩
          case rest =>
           clear HC24; repeat first | clear c1 | clear c2 | clear p2 | clear c3 | clear c7 | clear c7b0 | clear c7b1 | clear c8 | clear c10 | clear c12 | clear c12b0 | clear c12b1 | clear c13 | clear c15 | clear c17 | clear c17b0 | clear c17b1 | clear c17b2 | clear c18 | clear c19 | clear c21 | clear c23 | clear c26 | clear c27 | clear c30 | clear zDB | clear zJF | clear zJE | clear zJD | clear zPB | clear zPA | clear zOZ | clear zLX | clear zLW | clear zLV | clear zOW | clear zOV | clear zOU | clear zEG | clear zCY | clear zIS | clear zIR | clear zIQ | clear zOK | clear zOJ | clear zOI | clear zLS | clear zLR | clear zLQ | clear zOF | clear zOE | clear zOD | clear zED | clear p2
           obtain ⟨kq, x41_23, rfl, HA, HJ23, qK, zBY, HB⟩ := hcut
           cases kq with
           | zero => exact absurd HA.out (by simp [zE.j3])
           | succ kj23 =>
            have H := HA.out; clear HA; simp only [zE.j3] at H; by_cases c32 : x41_23 = true
            ·
             subst c32; replace H : (some 2) = some r := by rw [if_pos rfl] at H; exact H
             obtain rfl := Option.some.inj H; go_wp2; go_ret
             exact ⟨by first | rfl | (simp [zI, zH] <;> rfl) | (simp [*, zI, zH] <;> rfl), eG HB.out⟩
            ·
             replace c32 := Bool.eq_false_iff.mpr c32; subst c32; replace H : ((vL.f kj23 l0_2).bind fun t115 => (if t115 = true then (some 2) else ((vI.f kj23 l0_0).bind fun t116 => (if t116 = true then ((vI.f kj23 l0_1).bind fun t117 => (if t117 = true then (zE.l0 kj23 l0_2 (l0_2.length : Int) 0 l0_0 l0_1 l0_2) else (some 5))) else (some 5))))) = some r := by rw [if_neg (show ¬ (false = true) by decide)] at H; exact H
             replace H := Option.bind_eq_some_iff.mp H; obtain ⟨t115, A330, H⟩ := H; replace H : (if t115 = true then (some 2) else ((vI.f kj23 l0_0).bind fun t116 => (if t116 = true then ((vI.f kj23 l0_1).bind fun t117 => (if t117 = true then (zE.l0 kj23 l0_2 (l0_2.length : Int) 0 l0_0 l0_1 l0_2) else (some 5))) else (some 5)))) = some r := H; have A33 := zA.mk A330; clear A330; by_cases c34 : t115 = true
             ·
              subst c34; replace H : (some 2) = some r := by rw [if_pos rfl] at H; exact H
              obtain rfl := Option.some.inj H; have hnb35 := yZ.out; have hnc35 := uP.out; have zST : wc.cell? ⟨uH, 0, none⟩ = some (.slice A0_0 l0_0.length c0_0) := (zC qK.out 0).trans rfl; have zSS : wc.cell? ⟨uH, 1, none⟩ = some (.slice A0_1 l0_1.length c0_1) := (zC qK.out 1).trans rfl; have zSR : wc.cell? ⟨uH, 2, none⟩ = some (.slice A0_2 l0_2.length c0_2) := (zC qK.out 2).trans rfl; have zSK := zB qK.out 0; have zSJ := zB qK.out 1; have zSI := zB qK.out 2; go_wp2_with (first | ((with_reducible refine zQ (f := 34) rfl ?_); refine vN (some 53) rfl rfl Tryd.func34 (by kernel_rfl) rfl #[.slice A0_2 l0_2.length c0_2, .func (.func 38) #[] #[]] rfl (by (try simp only [List.map_toArray, List.map_cons, List.map_nil]); first | done | rfl | (simp only [List.length_drop, List.length_take]; rfl)) ?_; (with_reducible refine (vL.calls kj23 _ _ l0_2 true _ ?side1 ?side2 A33.out).mono ?_); (case side1 => repeat (first | exact (Kd.zX HR0_2.out HB.out) | (with_reducible refine Kd.zP ?_ _) | (with_reducible refine Kd.zO ?_ _) | (with_reducible refine Kd.zY ?_))); (case side2 => exact HC0_2.out); rintro e w' ⟨rfl, ⟨nd, rfl⟩⟩; refine ⟨_, rfl, ?_⟩))
              go_ret
              exact ⟨by first | rfl | (simp [zI, zH] <;> rfl) | (simp [*, zI, zH] <;> rfl), eG HB.out⟩
             ·
              replace c34 := Bool.eq_false_iff.mpr c34; subst c34; replace H : ((vI.f kj23 l0_0).bind fun t116 => (if t116 = true then ((vI.f kj23 l0_1).bind fun t117 => (if t117 = true then (zE.l0 kj23 l0_2 (l0_2.length : Int) 0 l0_0 l0_1 l0_2) else (some 5))) else (some 5))) = some r := by rw [if_neg (show ¬ (false = true) by decide)] at H; exact H
              replace H := Option.bind_eq_some_iff.mp H; obtain ⟨t116, A370, H⟩ := H; replace H : (if t116 = true then ((vI.f kj23 l0_1).bind fun t117 => (if t117 = true then (zE.l0 kj23 l0_2 (l0_2.length : Int) 0 l0_0 l0_1 l0_2) else (some 5))) else (some 5)) = some r := H; have A37 := zA.mk A370; clear A370; by_cases c38 : t116 = true
              ·
               subst c38; replace H : ((vI.f kj23 l0_1).bind fun t117 => (if t117 = true then (zE.l0 kj23 l0_2 (l0_2.length : Int) 0 l0_0 l0_1 l0_2) else (some 5))) = some r := by rw [if_pos rfl] at H; exact H
               replace H := Option.bind_eq_some_iff.mp H; obtain ⟨t117, A390, H⟩ := H; replace H : (if t117 = true then (zE.l0 kj23 l0_2 (l0_2.length : Int) 0 l0_0 l0_1 l0_2) else (some 5)) = some r := H; have A39 := zA.mk A390; clear A390; by_cases c40 : t117 = true
               ·
                subst c40; replace H : (zE.l0 kj23 l0_2 (l0_2.length : Int) 0 l0_0 l0_1 l0_2) = some r := by rw [if_pos rfl] at H; exact H
                have H' := zA.mk H; clear H; have hnb41 := yZ.out; have hnc41 := uP.out; have zOT : wc.cell? ⟨uH, 0, none⟩ = some (.slice A0_0 l0_0.length c0_0) := (zC qK.out 0).trans rfl; have zOS : wc.cell? ⟨uH, 1, none⟩ = some (.slice A0_1 l0_1.length c0_1) := (zC qK.out 1).trans rfl; have zOR : wc.cell? ⟨uH, 2, none⟩ = some (.slice A0_2 l0_2.length c0_2) := (zC qK.out 2).trans rfl; have zOC := zB qK.out 0; have zOB := zB qK.out 1; have zOA := zB qK.out 2; go_wp2_with (first | ((with_reducible refine zQ (f := 34) rfl ?_); refine vN (some 53) rfl rfl Tryd.func34 (by kernel_rfl) rfl #[.slice A0_2 l0_2.length c0_2, .func (.func 38) #[] #[]] rfl (by (try simp only [List.map_toArray, List.map_cons, List.map_nil]); first | done | rfl | (simp only [List.length_drop, List.length_take]; rfl)) ?_; (with_reducible refine (vL.calls kj23 _ _ l0_2 false _ ?side1 ?side2 A33.out).mono ?_); (case side1 => repeat (first | exact (Kd.zX HR0_2.out HB.out) | (with_reducible refine Kd.zP ?_ _) | (with_reducible refine Kd.zO ?_ _) | (with_reducible refine Kd.zY ?_))); (case side2 => exact HC0_2.out); rintro e w' ⟨rfl, ⟨nd, rfl⟩⟩; refine ⟨_, rfl, ?_⟩) | ((with_reducible refine zQ (f := 39) rfl ?_); refine vN (some 57) rfl rfl Tryd.func39 (by kernel_rfl) rfl #[.slice A0_0 l0_0.length c0_0] rfl (by (try simp only [List.map_toArray, List.map_cons, List.map_nil]); first | done | rfl | (simp only [List.length_drop, List.length_take]; rfl)) ?_; (with_reducible refine (vI.calls kj23 _ _ l0_0 true _ ?side1 ?side2 A37.out).mono ?_); (case side1 => repeat (first | exact (Kd.zX HR0_0.out (eG HB.out)) | (with_reducible refine Kd.zP ?_ _) | (with_reducible refine Kd.zO ?_ _) | (with_reducible refine Kd.zY ?_))); (case side2 => exact HC0_0.out); rintro e w' ⟨rfl, ⟨nd, rfl⟩⟩; refine ⟨_, rfl, ?_⟩) | (go_at_call 39; (with_reducible refine (vI.calls kj23 _ _ l0_1 true _ ?side1 ?side2 A39.out).mono ?_); (case side1 => repeat (first | exact (Kd.zX HR0_1.out (eG HB.out)) | (with_reducible refine Kd.zP ?_ _) | (with_reducible refine Kd.zO ?_ _) | (with_reducible refine Kd.zY ?_))); (case side2 => exact HC0_1.out); rintro e w' ⟨rfl, ⟨nd, rfl⟩⟩))
                go_loopg [68] kj23 (fun kq v68 w' => ∃ (x68_5 : Int), v68 = .int .i64 x68_5 ∧ zA (zE.l0 kq l0_2 (l0_2.length : Int) x68_5 l0_0 l0_1 l0_2 = some r) ∧ zA (kq ≤ kj23) ∧ zA (w'.heap[uH]? = some (.cells #[(.slice A0_0 l0_0.length c0_0), (.slice A0_1 l0_1.length c0_1), (.slice A0_2 l0_2.length c0_2)] 25 (0, 0))) ∧ zA (w'.heap[zFU]? = some (.cells #[.int .i64 (l0_1.length : Int)] 3 (0, 0))) ∧ zA (Below w.heap.size w w'))
                case atStart => exact ⟨(0), (by first | rfl | (simp; done) | (simp [*]; done)), H', ⟨Nat.le_refl _⟩, ⟨by (with_reducible repeat first | apply bN | apply bD | apply bA); exact qK.out⟩, ⟨by (with_reducible repeat first | apply bN | apply bD | apply bA); exact zBY.out⟩, ⟨eG HB.out⟩⟩
                case round =>
                 clear H'; repeat first | clear c1 | clear c2 | clear p2 | clear c3 | clear c4 | clear c7 | clear c7b0 | clear c7b1 | clear c8 | clear c10 | clear c12 | clear c12b0 | clear c12b1 | clear c13 | clear c15 | clear c17 | clear c17b0 | clear c17b1 | clear c17b2 | clear c18 | clear c19 | clear c21 | clear c23 | clear c26 | clear c27 | clear c30 | clear c32 | clear c34 | clear c35 | clear c36 | clear c38 | clear c39 | clear c40 | clear c41 | clear zDB | clear zJF | clear zJE | clear zJD | clear zPB | clear zPA | clear zOZ | clear zLX | clear zLW | clear zLV | clear zOW | clear zOV | clear zOU | clear zST | clear zSS | clear zSR | clear zOT | clear zOS | clear zOR | clear zEG | clear zCY | clear zIS | clear zIR | clear zIQ | clear zOK | clear zOJ | clear zOI | clear zLS | clear zLR | clear zLQ | clear zOF | clear zOE | clear zOD | clear zSK | clear zSJ | clear zSI | clear zOC | clear zOB | clear zOA | clear zED | clear p2
                 obtain ⟨x68_5, rfl, HA, HK5, qK, zBY, HB⟩ := hrel
                 cases gk with
                 | zero => exact absurd HA.out (by simp [zE.l0])
                 | succ k5 =>
                  have H := HA.out; clear HA; simp only [zE.l0] at H; by_cases c43 : x68_5 < (l0_2.length : Int)
                  ·
                   rw [if_pos c43] at H; have c43b0 : decide (x68_5 < (l0_2.length : Int)) = true := decide_eq_true c43; clear c43; by_cases c44 : 0 ≤ x68_5
                   ·
                    rw [if_pos c44] at H; have c44b0 : decide (0 ≤ x68_5) = true := decide_eq_true c44; clear c44; by_cases c45 : x68_5 < (l0_2.length : Int)
                    ·
                     rw [if_pos c45] at H; have c45b0 : decide (x68_5 < (l0_2.length : Int)) = true := decide_eq_true c45; clear c45; have H' := zA.mk H; clear H; have p118 : 0 ≤ (x68_5 : Int) := of_decide_eq_true (by first | (with_reducible assumption) | assumption); have q118 : x68_5 < (l0_2.length : Int) := of_decide_eq_true (by first | (with_reducible assumption) | assumption); obtain ⟨ad118, A118_0, c118_0, e118, zNZ, hl118_0, hi118_0⟩ := kQ HR0_2.out x68_5 p118 q118; cases e118; replace zNZ := (HB.out.cell (World.block_lt_of_cell? w _ zNZ)).trans zNZ; have HR118_0 := zA.mk hi118_0; have HC118_0 := zA.mk hl118_0; clear hi118_0 hl118_0; replace p118 := eq_true p118; replace q118 := eq_true q118; go_wp2; go_loopg [75] k5 (fun kq v75 w' => ∃ (x75_6 : Int), v75 = .int .i64 x75_6 ∧ zA (zE.l1 kq x68_5 (zW l0_2 x68_5) l0_2 (l0_2.length : Int) x68_5 (zW l0_2 x68_5) ((zW l0_2 x68_5).length : Int) x75_6 l0_0 l0_1 l0_2 = some r) ∧ zA (kq ≤ k5) ∧ zA (w'.heap[uH]? = some (.cells #[(.slice A0_0 l0_0.length c0_0), (.slice A0_1 l0_1.length c0_1), (.slice (some ad118) l0_2.length c0_2)] 25 (0, 0))) ∧ zA (w'.heap[zFU]? = some (.cells #[.int .i64 (l0_1.length : Int)] 3 (0, 0))) ∧ zA (Below w.heap.size w w'))
                     case atStart => exact ⟨(0), (by first | rfl | (simp; done) | (simp [*]; done)), H', ⟨Nat.le_refl _⟩, ⟨by (with_reducible repeat first | apply bN | apply bD | apply bA); exact qK.out⟩, ⟨by (with_reducible repeat first | apply bN | apply bD | apply bA); exact zBY.out⟩, ⟨eG HB.out⟩⟩
                     case round =>
                      clear H'; repeat first | clear c1 | clear p1 | clear q1 | clear hx1 | clear c2 | clear p2 | clear c3 | clear c4 | clear c7 | clear c7b0 | clear c7b1 | clear c8 | clear c10 | clear c11 | clear p11 | clear q11 | clear hx11 | clear c12 | clear c12b0 | clear c12b1 | clear c13 | clear c15 | clear c17 | clear c17b0 | clear c17b1 | clear c17b2 | clear c18 | clear c19 | clear c21 | clear c23 | clear c26 | clear c27 | clear c30 | clear c32 | clear c34 | clear c35 | clear c36 | clear c38 | clear c39 | clear c40 | clear c41 | clear c43 | clear c43b0 | clear c44 | clear c44b0 | clear c45 | clear c45b0 | clear zDB | clear zJF | clear zJE | clear zJD | clear zPB | clear zPA | clear zOZ | clear zLX | clear zLW | clear zLV | clear zOW | clear zOV | clear zOU | clear zST | clear zSS | clear zSR | clear zOT | clear zOS | clear zOR | clear zEG | clear zCY | clear zIS | clear zIR | clear zIQ | clear zOK | clear zOJ | clear zOI | clear zLS | clear zLR | clear zLQ | clear zOF | clear zOE | clear zOD | clear zSK | clear zSJ | clear zSI | clear zOC | clear zOB | clear zOA | clear zED | clear zNZ | clear p118 | clear p2 | clear q118
                      obtain ⟨x75_6, rfl, HA, HK6, qK, zBY, HB⟩ := hrel
                      cases gk with
                      | zero => exact absurd HA.out (by simp [zE.l1])
                      | succ k6 =>
                       have H := HA.out; clear HA; simp only [zE.l1] at H; by_cases c46 : x75_6 < ((zW l0_2 x68_5).length : Int)
                       ·
                        rw [if_pos c46] at H; have c46b0 : decide (x75_6 < ((zW l0_2 x68_5).length : Int)) = true := decide_eq_true c46; clear c46; by_cases c47 : 0 ≤ x75_6
                        ·
                         rw [if_pos c47] at H; have c47b0 : decide (0 ≤ x75_6) = true := decide_eq_true c47; clear c47; by_cases c48 : x75_6 < ((zW l0_2 x68_5).length : Int)
                         ·
                          rw [if_pos c48] at H; have c48b0 : decide (x75_6 < ((zW l0_2 x68_5).length : Int)) = true := decide_eq_true c48; clear c48; by_cases c49 : x75_6 > 0
                          ·
                           rw [if_pos c49] at H; have c49b0 : decide (0 < x75_6) = true := decide_eq_true c49; clear c49; obtain ⟨ji50, hji50⟩ : ∃ j_ : Int, (wrap64 (x75_6 - 1)) = j_ := ⟨_, rfl⟩; replace H : (if 0 ≤ (ji50) then (if (ji50) < ((zW l0_2 x68_5).length : Int) then (if (rd (zW l0_2 x68_5) x75_6) < (rd (zW l0_2 x68_5) (ji50)) then (some 18) else (if x68_5 > 0 then (if 0 ≤ (wrap64 (x68_5 - 1)) then (if (wrap64 (x68_5 - 1)) < (l0_2.length : Int) then (if x75_6 < ((zW l0_2 (wrap64 (x68_5 - 1))).length : Int) then (if (rd (zW l0_2 x68_5) x75_6) > (rd (zW l0_2 (wrap64 (x68_5 - 1))) x75_6) then (some 18) else (zE.l1 k6 x68_5 (zW l0_2 x68_5) l0_2 (l0_2.length : Int) x68_5 (zW l0_2 x68_5) ((zW l0_2 x68_5).length : Int) (wrap64 (x75_6 + 1)) l0_0 l0_1 l0_2)) else (none)) else (none)) else (none)) else (zE.l1 k6 x68_5 (zW l0_2 x68_5) l0_2 (l0_2.length : Int) x68_5 (zW l0_2 x68_5) ((zW l0_2 x68_5).length : Int) (wrap64 (x75_6 + 1)) l0_0 l0_1 l0_2))) else (none)) else (none)) = some r := by first | (rw [hji50] at H; exact H) | (simp only [hji50] at H ⊢; exact H)
                           have hji50w : (IntKind.i64.wrap (x75_6 - 1)) = ji50 := (wX _).trans hji50; by_cases c51 : 0 ≤ (ji50)
                           ·
                            rw [if_pos c51] at H; have c51b0 : decide (0 ≤ (ji50)) = true := decide_eq_true c51; clear c51; by_cases c52 : (ji50) < ((zW l0_2 x68_5).length : Int)
                            ·
                             rw [if_pos c52] at H; have c52b0 : decide ((ji50) < ((zW l0_2 x68_5).length : Int)) = true := decide_eq_true c52; clear c52; by_cases c53 : (rd (zW l0_2 x68_5) x75_6) < (rd (zW l0_2 x68_5) (ji50))
                             ·
                              rw [if_pos c53] at H; have c53b0 : decide ((rd (zW l0_2 x68_5) x75_6) < (rd (zW l0_2 x68_5) (ji50))) = true := decide_eq_true c53; clear c53; obtain rfl := Option.some.inj H; have p119 : 0 ≤ (x75_6 : Int) := of_decide_eq_true (by first | (with_reducible assumption) | assumption); have q119 : x75_6 < ((zW l0_2 x68_5).length : Int) := of_decide_eq_true (by first | (with_reducible assumption) | assumption); obtain ⟨ad119, e119, jQ⟩ := Kd.qC HR118_0.out x75_6 p119 q119; cases e119; replace jQ := (HB.out.cell (World.block_lt_of_cell? w _ jQ)).trans jQ; replace p119 := eq_true p119; replace q119 := eq_true q119; have p120 : 0 ≤ ((ji50) : Int) := of_decide_eq_true (by first | (with_reducible assumption) | assumption); have q120 : (ji50) < ((zW l0_2 x68_5).length : Int) := of_decide_eq_true (by first | (with_reducible assumption) | assumption); obtain ⟨ad120, e120, zBC⟩ := Kd.qC HR118_0.out (ji50) p120 q120; obtain rfl : ad119 = ad120 := (by injection e120); replace zBC := (HB.out.cell (World.block_lt_of_cell? w _ zBC)).trans zBC; replace p120 := eq_true p120; replace q120 := eq_true q120; go_wp2; go_ret
                              exact ⟨by first | rfl | (simp [zI, zH] <;> rfl) | (simp only [← hji50]; first | rfl | (simp [zI, zH] <;> rfl)) | (simp [*, zI, zH] <;> rfl), eG HB.out⟩
                             ·
                              rw [if_neg c53] at H; have c53b0 : decide ((rd (zW l0_2 x68_5) x75_6) < (rd (zW l0_2 x68_5) (ji50))) = false := decide_eq_false c53; clear c53; by_cases c54 : x68_5 > 0
                              ·
                               rw [if_pos c54] at H; have c54b0 : decide (0 < x68_5) = true := decide_eq_true c54; clear c54; obtain ⟨ji55, hji55⟩ : ∃ j_ : Int, (wrap64 (x68_5 - 1)) = j_ := ⟨_, rfl⟩; replace H : (if 0 ≤ (ji55) then (if (ji55) < (l0_2.length : Int) then (if x75_6 < ((zW l0_2 (ji55)).length : Int) then (if (rd (zW l0_2 x68_5) x75_6) > (rd (zW l0_2 (ji55)) x75_6) then (some 18) else (zE.l1 k6 x68_5 (zW l0_2 x68_5) l0_2 (l0_2.length : Int) x68_5 (zW l0_2 x68_5) ((zW l0_2 x68_5).length : Int) (wrap64 (x75_6 + 1)) l0_0 l0_1 l0_2)) else (none)) else (none)) else (none)) = some r := by first | (rw [hji55] at H; exact H) | (simp only [hji55] at H ⊢; exact H)
                               have hji55w : (IntKind.i64.wrap (x68_5 - 1)) = ji55 := (wX _).trans hji55; by_cases c56 : 0 ≤ (ji55)
                               ·
                                rw [if_pos c56] at H; have c56b0 : decide (0 ≤ (ji55)) = true := decide_eq_true c56; clear c56; by_cases c57 : (ji55) < (l0_2.length : Int)
                                ·
                                 rw [if_pos c57] at H; have c57b0 : decide ((ji55) < (l0_2.length : Int)) = true := decide_eq_true c57; clear c57; by_cases c58 : x75_6 < ((zW l0_2 (ji55)).length : Int)
                                 ·
                                  rw [if_pos c58] at H; have c58b0 : decide (x75_6 < ((zW l0_2 (ji55)).length : Int)) = true := decide_eq_true c58; clear c58; by_cases c59 : (rd (zW l0_2 x68_5) x75_6) > (rd (zW l0_2 (ji55)) x75_6)
                                  ·
                                   rw [if_pos c59] at H; have c59b0 : decide ((rd (zW l0_2 (ji55)) x75_6) < (rd (zW l0_2 x68_5) x75_6)) = true := decide_eq_true c59; clear c59; obtain rfl := Option.some.inj H; have p119 : 0 ≤ (x75_6 : Int) := of_decide_eq_true (by first | (with_reducible assumption) | assumption); have q119 : x75_6 < ((zW l0_2 x68_5).length : Int) := of_decide_eq_true (by first | (with_reducible assumption) | assumption); obtain ⟨ad119, e119, jQ⟩ := Kd.qC HR118_0.out x75_6 p119 q119; cases e119; replace jQ := (HB.out.cell (World.block_lt_of_cell? w _ jQ)).trans jQ; replace p119 := eq_true p119; replace q119 := eq_true q119; have p120 : 0 ≤ ((ji50) : Int) := of_decide_eq_true (by first | (with_reducible assumption) | assumption); have q120 : (ji50) < ((zW l0_2 x68_5).length : Int) := of_decide_eq_true (by first | (with_reducible assumption) | assumption); obtain ⟨ad120, e120, zBC⟩ := Kd.qC HR118_0.out (ji50) p120 q120; obtain rfl : ad119 = ad120 := (by injection e120); replace zBC := (HB.out.cell (World.block_lt_of_cell? w _ zBC)).trans zBC; replace p120 := eq_true p120; replace q120 := eq_true q120; have hnb60 := yZ.out; have hnc60 := uP.out; have hcz61_0 : wr.cell? ⟨uH, 0, none⟩ = some (.slice A0_0 l0_0.length c0_0) := (zC qK.out 0).trans rfl; have hcz61_1 : wr.cell? ⟨uH, 1, none⟩ = some (.slice A0_1 l0_1.length c0_1) := (zC qK.out 1).trans rfl; have hcz61_2 : wr.cell? ⟨uH, 2, none⟩ = some (.slice (some ad118) l0_2.length c0_2) := (zC qK.out 2).trans rfl; have hfz61_0 := zB qK.out 0; have hfz61_1 := zB qK.out 1; have hfz61_2 := zB qK.out 2; have p121 : 0 ≤ ((ji55) : Int) := of_decide_eq_true (by first | (with_reducible assumption) | assumption); have q121 : (ji55) < (l0_2.length : Int) := of_decide_eq_true (by first | (with_reducible assumption) | assumption); obtain ⟨ad121, A121_0, c121_0, e121, zHH, hl121_0, hi121_0⟩ := kQ HR0_2.out (ji55) p121 q121; obtain rfl : ad118 = ad121 := (by injection e121); replace zHH := (HB.out.cell (World.block_lt_of_cell? w _ zHH)).trans zHH; have HR121_0 := zA.mk hi121_0; have HC121_0 := zA.mk hl121_0; clear hi121_0 hl121_0; replace p121 := eq_true p121; replace q121 := eq_true q121; have p122 : 0 ≤ (x75_6 : Int) := of_decide_eq_true (by first | (with_reducible assumption) | assumption); have q122 : x75_6 < ((zW l0_2 (ji55)).length : Int) := of_decide_eq_true (by first | (with_reducible assumption) | assumption); obtain ⟨ad122, e122, zHG⟩ := Kd.qC HR121_0.out x75_6 p122 q122; cases e122; replace zHG := (HB.out.cell (World.block_lt_of_cell? w _ zHG)).trans zHG; replace p122 := eq_true p122; replace q122 := eq_true q122; go_wp2; go_ret
                                   exact ⟨by first | rfl | (simp [zI, zH] <;> rfl) | (simp only [← hji50, ← hji55]; first | rfl | (simp [zI, zH] <;> rfl)) | (simp [*, zI, zH] <;> rfl), eG HB.out⟩
                                  ·
                                   rw [if_neg c59] at H; have c59b0 : decide ((rd (zW l0_2 (ji55)) x75_6) < (rd (zW l0_2 x68_5) x75_6)) = false := decide_eq_false c59; clear c59; have H' := zA.mk H; clear H; have p119 : 0 ≤ (x75_6 : Int) := of_decide_eq_true (by first | (with_reducible assumption) | assumption); have q119 : x75_6 < ((zW l0_2 x68_5).length : Int) := of_decide_eq_true (by first | (with_reducible assumption) | assumption); obtain ⟨ad119, e119, jQ⟩ := Kd.qC HR118_0.out x75_6 p119 q119; cases e119; replace jQ := (HB.out.cell (World.block_lt_of_cell? w _ jQ)).trans jQ; replace p119 := eq_true p119; replace q119 := eq_true q119; have p120 : 0 ≤ ((ji50) : Int) := of_decide_eq_true (by first | (with_reducible assumption) | assumption); have q120 : (ji50) < ((zW l0_2 x68_5).length : Int) := of_decide_eq_true (by first | (with_reducible assumption) | assumption); obtain ⟨ad120, e120, zBC⟩ := Kd.qC HR118_0.out (ji50) p120 q120; obtain rfl : ad119 = ad120 := (by injection e120); replace zBC := (HB.out.cell (World.block_lt_of_cell? w _ zBC)).trans zBC; replace p120 := eq_true p120; replace q120 := eq_true q120; have hnb62 := yZ.out; have hnc62 := uP.out; have hcz63_0 : wr.cell? ⟨uH, 0, none⟩ = some (.slice A0_0 l0_0.length c0_0) := (zC qK.out 0).trans rfl; have hcz63_1 : wr.cell? ⟨uH, 1, none⟩ = some (.slice A0_1 l0_1.length c0_1) := (zC qK.out 1).trans rfl; have hcz63_2 : wr.cell? ⟨uH, 2, none⟩ = some (.slice (some ad118) l0_2.length c0_2) := (zC qK.out 2).trans rfl; have hfz63_0 := zB qK.out 0; have hfz63_1 := zB qK.out 1; have hfz63_2 := zB qK.out 2; have p121 : 0 ≤ ((ji55) : Int) := of_decide_eq_true (by first | (with_reducible assumption) | assumption); have q121 : (ji55) < (l0_2.length : Int) := of_decide_eq_true (by first | (with_reducible assumption) | assumption); obtain ⟨ad121, A121_0, c121_0, e121, zHH, hl121_0, hi121_0⟩ := kQ HR0_2.out (ji55) p121 q121; obtain rfl : ad118 = ad121 := (by injection e121); replace zHH := (HB.out.cell (World.block_lt_of_cell? w _ zHH)).trans zHH; have HR121_0 := zA.mk hi121_0; have HC121_0 := zA.mk hl121_0; clear hi121_0 hl121_0; replace p121 := eq_true p121; replace q121 := eq_true q121; have p122 : 0 ≤ (x75_6 : Int) := of_decide_eq_true (by first | (with_reducible assumption) | assumption); have q122 : x75_6 < ((zW l0_2 (ji55)).length : Int) := of_decide_eq_true (by first | (with_reducible assumption) | assumption); obtain ⟨ad122, e122, zHG⟩ := Kd.qC HR121_0.out x75_6 p122 q122; cases e122; replace zHG := (HB.out.cell (World.block_lt_of_cell? w _ zHG)).trans zHG; replace p122 := eq_true p122; replace q122 := eq_true q122; go_wp2; go_roundg k6
                                   case measure => have := HJ1.out; have := HJ10.out; have := HJ15.out; have := HJ23.out; have := HK5.out; have := HK6.out; omega
                                   case rel => exact ⟨(wrap64 (x75_6 + 1)), (by first | rfl | (simp; done) | (simp [*]; done)), H', ⟨by have := HJ1.out; have := HJ10.out; have := HJ15.out; have := HJ23.out; have := HK5.out; have := HK6.out; omega⟩, ⟨by (with_reducible repeat first | apply bN | apply bD | apply bA); exact qK.out⟩, ⟨by (with_reducible repeat first | apply bN | apply bD | apply bA); exact zBY.out⟩, ⟨eG HB.out⟩⟩
                                 · rw [if_neg c58] at H; exact absurd H (by simp)
                                · rw [if_neg c57] at H; exact absurd H (by simp)
                               · rw [if_neg c56] at H; exact absurd H (by simp)
                              ·
                               rw [if_neg c54] at H; have c54b0 : decide (0 < x68_5) = false := decide_eq_false c54; clear c54; have H' := zA.mk H; clear H; have p119 : 0 ≤ (x75_6 : Int) := of_decide_eq_true (by first | (with_reducible assumption) | assumption); have q119 : x75_6 < ((zW l0_2 x68_5).length : Int) := of_decide_eq_true (by first | (with_reducible assumption) | assumption); obtain ⟨ad119, e119, jQ⟩ := Kd.qC HR118_0.out x75_6 p119 q119; cases e119; replace jQ := (HB.out.cell (World.block_lt_of_cell? w _ jQ)).trans jQ; replace p119 := eq_true p119; replace q119 := eq_true q119; have p120 : 0 ≤ ((ji50) : Int) := of_decide_eq_true (by first | (with_reducible assumption) | assumption); have q120 : (ji50) < ((zW l0_2 x68_5).length : Int) := of_decide_eq_true (by first | (with_reducible assumption) | assumption); obtain ⟨ad120, e120, zBC⟩ := Kd.qC HR118_0.out (ji50) p120 q120; obtain rfl : ad119 = ad120 := (by injection e120); replace zBC := (HB.out.cell (World.block_lt_of_cell? w _ zBC)).trans zBC; replace p120 := eq_true p120; replace q120 := eq_true q120; go_wp2; go_roundg k6
                               case measure => have := HJ1.out; have := HJ10.out; have := HJ15.out; have := HJ23.out; have := HK5.out; have := HK6.out; omega
                               case rel => exact ⟨(wrap64 (x75_6 + 1)), (by first | rfl | (simp; done) | (simp [*]; done)), H', ⟨by have := HJ1.out; have := HJ10.out; have := HJ15.out; have := HJ23.out; have := HK5.out; have := HK6.out; omega⟩, ⟨by (with_reducible repeat first | apply bN | apply bD | apply bA); exact qK.out⟩, ⟨by (with_reducible repeat first | apply bN | apply bD | apply bA); exact zBY.out⟩, ⟨eG HB.out⟩⟩
                            · rw [if_neg c52] at H; exact absurd H (by simp)
                           · rw [if_neg c51] at H; exact absurd H (by simp)
                          ·
                           rw [if_neg c49] at H; have c49b0 : decide (0 < x75_6) = false := decide_eq_false c49; clear c49; by_cases c64 : x68_5 > 0
                           ·
                            rw [if_pos c64] at H; have c64b0 : decide (0 < x68_5) = true := decide_eq_true c64; clear c64; obtain ⟨ji65, hji65⟩ : ∃ j_ : Int, (wrap64 (x68_5 - 1)) = j_ := ⟨_, rfl⟩; replace H : (if 0 ≤ (ji65) then (if (ji65) < (l0_2.length : Int) then (if x75_6 < ((zW l0_2 (ji65)).length : Int) then (if (rd (zW l0_2 x68_5) x75_6) > (rd (zW l0_2 (ji65)) x75_6) then (some 18) else (zE.l1 k6 x68_5 (zW l0_2 x68_5) l0_2 (l0_2.length : Int) x68_5 (zW l0_2 x68_5) ((zW l0_2 x68_5).length : Int) (wrap64 (x75_6 + 1)) l0_0 l0_1 l0_2)) else (none)) else (none)) else (none)) = some r := by first | (rw [hji65] at H; exact H) | (simp only [hji65] at H ⊢; exact H)
                            have hji65w : (IntKind.i64.wrap (x68_5 - 1)) = ji65 := (wX _).trans hji65; by_cases c66 : 0 ≤ (ji65)
                            ·
                             rw [if_pos c66] at H; have c66b0 : decide (0 ≤ (ji65)) = true := decide_eq_true c66; clear c66; by_cases c67 : (ji65) < (l0_2.length : Int)
                             ·
                              rw [if_pos c67] at H; have c67b0 : decide ((ji65) < (l0_2.length : Int)) = true := decide_eq_true c67; clear c67; by_cases c68 : x75_6 < ((zW l0_2 (ji65)).length : Int)
                              ·
                               rw [if_pos c68] at H; have c68b0 : decide (x75_6 < ((zW l0_2 (ji65)).length : Int)) = true := decide_eq_true c68; clear c68; by_cases c69 : (rd (zW l0_2 x68_5) x75_6) > (rd (zW l0_2 (ji65)) x75_6)
                               ·
                                rw [if_pos c69] at H; have c69b0 : decide ((rd (zW l0_2 (ji65)) x75_6) < (rd (zW l0_2 x68_5) x75_6)) = true := decide_eq_true c69; clear c69; obtain rfl := Option.some.inj H; have p119 : 0 ≤ (x75_6 : Int) := of_decide_eq_true (by first | (with_reducible assumption) | assumption); have q119 : x75_6 < ((zW l0_2 x68_5).length : Int) := of_decide_eq_true (by first | (with_reducible assumption) | assumption); obtain ⟨ad119, e119, jQ⟩ := Kd.qC HR118_0.out x75_6 p119 q119; cases e119; replace jQ := (HB.out.cell (World.block_lt_of_cell? w _ jQ)).trans jQ; replace p119 := eq_true p119; replace q119 := eq_true q119; have hnb70 := yZ.out; have hnc70 := uP.out; have hcz71_0 : wr.cell? ⟨uH, 0, none⟩ = some (.slice A0_0 l0_0.length c0_0) := (zC qK.out 0).trans rfl; have hcz71_1 : wr.cell? ⟨uH, 1, none⟩ = some (.slice A0_1 l0_1.length c0_1) := (zC qK.out 1).trans rfl; have hcz71_2 : wr.cell? ⟨uH, 2, none⟩ = some (.slice (some ad118) l0_2.length c0_2) := (zC qK.out 2).trans rfl; have hfz71_0 := zB qK.out 0; have hfz71_1 := zB qK.out 1; have hfz71_2 := zB qK.out 2; have p123 : 0 ≤ ((ji65) : Int) := of_decide_eq_true (by first | (with_reducible assumption) | assumption); have q123 : (ji65) < (l0_2.length : Int) := of_decide_eq_true (by first | (with_reducible assumption) | assumption); obtain ⟨ad123, A123_0, c123_0, e123, zHF, hl123_0, hi123_0⟩ := kQ HR0_2.out (ji65) p123 q123; obtain rfl : ad118 = ad123 := (by injection e123); replace zHF := (HB.out.cell (World.block_lt_of_cell? w _ zHF)).trans zHF; have HR123_0 := zA.mk hi123_0; have HC123_0 := zA.mk hl123_0; clear hi123_0 hl123_0; replace p123 := eq_true p123; replace q123 := eq_true q123; have p124 : 0 ≤ (x75_6 : Int) := of_decide_eq_true (by first | (with_reducible assumption) | assumption); have q124 : x75_6 < ((zW l0_2 (ji65)).length : Int) := of_decide_eq_true (by first | (with_reducible assumption) | assumption); obtain ⟨ad124, e124, zHE⟩ := Kd.qC HR123_0.out x75_6 p124 q124; cases e124; replace zHE := (HB.out.cell (World.block_lt_of_cell? w _ zHE)).trans zHE; replace p124 := eq_true p124; replace q124 := eq_true q124; go_wp2; go_ret
                                exact ⟨by first | rfl | (simp [zI, zH] <;> rfl) | (simp only [← hji65]; first | rfl | (simp [zI, zH] <;> rfl)) | (simp [*, zI, zH] <;> rfl), eG HB.out⟩
                               ·
                                rw [if_neg c69] at H; have c69b0 : decide ((rd (zW l0_2 (ji65)) x75_6) < (rd (zW l0_2 x68_5) x75_6)) = false := decide_eq_false c69; clear c69; have H' := zA.mk H; clear H; have p119 : 0 ≤ (x75_6 : Int) := of_decide_eq_true (by first | (with_reducible assumption) | assumption); have q119 : x75_6 < ((zW l0_2 x68_5).length : Int) := of_decide_eq_true (by first | (with_reducible assumption) | assumption); obtain ⟨ad119, e119, jQ⟩ := Kd.qC HR118_0.out x75_6 p119 q119; cases e119; replace jQ := (HB.out.cell (World.block_lt_of_cell? w _ jQ)).trans jQ; replace p119 := eq_true p119; replace q119 := eq_true q119; have hnb72 := yZ.out; have hnc72 := uP.out; have hcz73_0 : wr.cell? ⟨uH, 0, none⟩ = some (.slice A0_0 l0_0.length c0_0) := (zC qK.out 0).trans rfl; have hcz73_1 : wr.cell? ⟨uH, 1, none⟩ = some (.slice A0_1 l0_1.length c0_1) := (zC qK.out 1).trans rfl; have hcz73_2 : wr.cell? ⟨uH, 2, none⟩ = some (.slice (some ad118) l0_2.length c0_2) := (zC qK.out 2).trans rfl; have hfz73_0 := zB qK.out 0; have hfz73_1 := zB qK.out 1; have hfz73_2 := zB qK.out 2; have p123 : 0 ≤ ((ji65) : Int) := of_decide_eq_true (by first | (with_reducible assumption) | assumption); have q123 : (ji65) < (l0_2.length : Int) := of_decide_eq_true (by first | (with_reducible assumption) | assumption); obtain ⟨ad123, A123_0, c123_0, e123, zHF, hl123_0, hi123_0⟩ := kQ HR0_2.out (ji65) p123 q123; obtain rfl : ad118 = ad123 := (by injection e123); replace zHF := (HB.out.cell (World.block_lt_of_cell? w _ zHF)).trans zHF; have HR123_0 := zA.mk hi123_0; have HC123_0 := zA.mk hl123_0; clear hi123_0 hl123_0; replace p123 := eq_true p123; replace q123 := eq_true q123; have p124 : 0 ≤ (x75_6 : Int) := of_decide_eq_true (by first | (with_reducible assumption) | assumption); have q124 : x75_6 < ((zW l0_2 (ji65)).length : Int) := of_decide_eq_true (by first | (with_reducible assumption) | assumption); obtain ⟨ad124, e124, zHE⟩ := Kd.qC HR123_0.out x75_6 p124 q124; cases e124; replace zHE := (HB.out.cell (World.block_lt_of_cell? w _ zHE)).trans zHE; replace p124 := eq_true p124; replace q124 := eq_true q124; go_wp2; go_roundg k6
                                case measure => have := HJ1.out; have := HJ10.out; have := HJ15.out; have := HJ23.out; have := HK5.out; have := HK6.out; omega
                                case rel => exact ⟨(wrap64 (x75_6 + 1)), (by first | rfl | (simp; done) | (simp [*]; done)), H', ⟨by have := HJ1.out; have := HJ10.out; have := HJ15.out; have := HJ23.out; have := HK5.out; have := HK6.out; omega⟩, ⟨by (with_reducible repeat first | apply bN | apply bD | apply bA); exact qK.out⟩, ⟨by (with_reducible repeat first | apply bN | apply bD | apply bA); exact zBY.out⟩, ⟨eG HB.out⟩⟩
                              · rw [if_neg c68] at H; exact absurd H (by simp)
                             · rw [if_neg c67] at H; exact absurd H (by simp)
                            · rw [if_neg c66] at H; exact absurd H (by simp)
                           ·
                            rw [if_neg c64] at H; have c64b0 : decide (0 < x68_5) = false := decide_eq_false c64; clear c64; have H' := zA.mk H; clear H; have p119 : 0 ≤ (x75_6 : Int) := of_decide_eq_true (by first | (with_reducible assumption) | assumption); have q119 : x75_6 < ((zW l0_2 x68_5).length : Int) := of_decide_eq_true (by first | (with_reducible assumption) | assumption); obtain ⟨ad119, e119, jQ⟩ := Kd.qC HR118_0.out x75_6 p119 q119; cases e119; replace jQ := (HB.out.cell (World.block_lt_of_cell? w _ jQ)).trans jQ; replace p119 := eq_true p119; replace q119 := eq_true q119; go_wp2; go_roundg k6
                            case measure => have := HJ1.out; have := HJ10.out; have := HJ15.out; have := HJ23.out; have := HK5.out; have := HK6.out; omega
                            case rel => exact ⟨(wrap64 (x75_6 + 1)), (by first | rfl | (simp; done) | (simp [*]; done)), H', ⟨by have := HJ1.out; have := HJ10.out; have := HJ15.out; have := HJ23.out; have := HK5.out; have := HK6.out; omega⟩, ⟨by (with_reducible repeat first | apply bN | apply bD | apply bA); exact qK.out⟩, ⟨by (with_reducible repeat first | apply bN | apply bD | apply bA); exact zBY.out⟩, ⟨eG HB.out⟩⟩
                         · rw [if_neg c48] at H; exact absurd H (by simp)
                        · rw [if_neg c47] at H; exact absurd H (by simp)
                       ·
                        rw [if_neg c46] at H; have c46b0 : decide (x75_6 < ((zW l0_2 x68_5).length : Int)) = false := decide_eq_false c46; clear c46; have H' := zA.mk H; clear H; go_wp2; go_roundg k6
                        case measure => have := HJ1.out; have := HJ10.out; have := HJ15.out; have := HJ23.out; have := HK5.out; have := HK6.out; omega
                        case rel => exact ⟨(wrap64 (x68_5 + 1)), (by first | rfl | (simp; done) | (simp [*]; done)), H', ⟨by have := HJ1.out; have := HJ10.out; have := HJ15.out; have := HJ23.out; have := HK5.out; have := HK6.out; omega⟩, ⟨by (with_reducible repeat first | apply bN | apply bD | apply bA); exact qK.out⟩, ⟨by (with_reducible repeat first | apply bN | apply bD | apply bA); exact zBY.out⟩, ⟨eG HB.out⟩⟩
                    · rw [if_neg c45] at H; exact absurd H (by simp)
                   · rw [if_neg c44] at H; exact absurd H (by simp)
                  ·
                   rw [if_neg c43] at H; have c43b0 : decide (x68_5 < (l0_2.length : Int)) = false := decide_eq_false c43; clear c43; obtain rfl := Option.some.inj H; go_wp2; go_ret
                   exact ⟨by first | rfl | (simp [zI, zH] <;> rfl) | (simp [*, zI, zH] <;> rfl), eG HB.out⟩
               ·
                replace c40 := Bool.eq_false_iff.mpr c40; subst c40; replace H : (some 5) = some r := by rw [if_neg (show ¬ (false = true) by decide)] at H; exact H
                obtain rfl := Option.some.inj H; have hnb74 := yZ.out; have hnc74 := uP.out; have hcz75_0 : wc.cell? ⟨uH, 0, none⟩ = some (.slice A0_0 l0_0.length c0_0) := (zC qK.out 0).trans rfl; have hcz75_1 : wc.cell? ⟨uH, 1, none⟩ = some (.slice A0_1 l0_1.length c0_1) := (zC qK.out 1).trans rfl; have hcz75_2 : wc.cell? ⟨uH, 2, none⟩ = some (.slice A0_2 l0_2.length c0_2) := (zC qK.out 2).trans rfl; have hfz75_0 := zB qK.out 0; have hfz75_1 := zB qK.out 1; have hfz75_2 := zB qK.out 2; go_wp2_with (first | ((with_reducible refine zQ (f := 34) rfl ?_); refine vN (some 53) rfl rfl Tryd.func34 (by kernel_rfl) rfl #[.slice A0_2 l0_2.length c0_2, .func (.func 38) #[] #[]] rfl (by (try simp only [List.map_toArray, List.map_cons, List.map_nil]); first | done | rfl | (simp only [List.length_drop, List.length_take]; rfl)) ?_; (with_reducible refine (vL.calls kj23 _ _ l0_2 false _ ?side1 ?side2 A33.out).mono ?_); (case side1 => repeat (first | exact (Kd.zX HR0_2.out HB.out) | (with_reducible refine Kd.zP ?_ _) | (with_reducible refine Kd.zO ?_ _) | (with_reducible refine Kd.zY ?_))); (case side2 => exact HC0_2.out); rintro e w' ⟨rfl, ⟨nd, rfl⟩⟩; refine ⟨_, rfl, ?_⟩) | ((with_reducible refine zQ (f := 39) rfl ?_); refine vN (some 57) rfl rfl Tryd.func39 (by kernel_rfl) rfl #[.slice A0_0 l0_0.length c0_0] rfl (by (try simp only [List.map_toArray, List.map_cons, List.map_nil]); first | done | rfl | (simp only [List.length_drop, List.length_take]; rfl)) ?_; (with_reducible refine (vI.calls kj23 _ _ l0_0 true _ ?side1 ?side2 A37.out).mono ?_); (case side1 => repeat (first | exact (Kd.zX HR0_0.out (eG HB.out)) | (with_reducible refine Kd.zP ?_ _) | (with_reducible refine Kd.zO ?_ _) | (with_reducible refine Kd.zY ?_))); (case side2 => exact HC0_0.out); rintro e w' ⟨rfl, ⟨nd, rfl⟩⟩; refine ⟨_, rfl, ?_⟩) | (go_at_call 39; (with_reducible refine (vI.calls kj23 _ _ l0_1 false _ ?side1 ?side2 A39.out).mono ?_); (case side1 => repeat (first | exact (Kd.zX HR0_1.out (eG HB.out)) | (with_reducible refine Kd.zP ?_ _) | (with_reducible refine Kd.zO ?_ _) | (with_reducible refine Kd.zY ?_))); (case side2 => exact HC0_1.out); rintro e w' ⟨rfl, ⟨nd, rfl⟩⟩))
                go_ret
                exact ⟨by first | rfl | (simp [zI, zH] <;> rfl) | (simp [*, zI, zH] <;> rfl), eG HB.out⟩
              ·
               replace c38 := Bool.eq_false_iff.mpr c38; subst c38; replace H : (some 5) = some r := by rw [if_neg (show ¬ (false = true) by decide)] at H; exact H
               obtain rfl := Option.some.inj H; have hnb76 := yZ.out; have hnc76 := uP.out; have hcz77_0 : wc.cell? ⟨uH, 0, none⟩ = some (.slice A0_0 l0_0.length c0_0) := (zC qK.out 0).trans rfl; have hcz77_1 : wc.cell? ⟨uH, 1, none⟩ = some (.slice A0_1 l0_1.length c0_1) := (zC qK.out 1).trans rfl; have hcz77_2 : wc.cell? ⟨uH, 2, none⟩ = some (.slice A0_2 l0_2.length c0_2) := (zC qK.out 2).trans rfl; have hfz77_0 := zB qK.out 0; have hfz77_1 := zB qK.out 1; have hfz77_2 := zB qK.out 2; go_wp2_with (first | ((with_reducible refine zQ (f := 34) rfl ?_); refine vN (some 53) rfl rfl Tryd.func34 (by kernel_rfl) rfl #[.slice A0_2 l0_2.length c0_2, .func (.func 38) #[] #[]] rfl (by (try simp only [List.map_toArray, List.map_cons, List.map_nil]); first | done | rfl | (simp only [List.length_drop, List.length_take]; rfl)) ?_; (with_reducible refine (vL.calls kj23 _ _ l0_2 false _ ?side1 ?side2 A33.out).mono ?_); (case side1 => repeat (first | exact (Kd.zX HR0_2.out HB.out) | (with_reducible refine Kd.zP ?_ _) | (with_reducible refine Kd.zO ?_ _) | (with_reducible refine Kd.zY ?_))); (case side2 => exact HC0_2.out); rintro e w' ⟨rfl, ⟨nd, rfl⟩⟩; refine ⟨_, rfl, ?_⟩) | ((with_reducible refine zQ (f := 39) rfl ?_); refine vN (some 57) rfl rfl Tryd.func39 (by kernel_rfl) rfl #[.slice A0_0 l0_0.length c0_0] rfl (by (try simp only [List.map_toArray, List.map_cons, List.map_nil]); first | done | rfl | (simp only [List.length_drop, List.length_take]; rfl)) ?_; (with_reducible refine (vI.calls kj23 _ _ l0_0 false _ ?side1 ?side2 A37.out).mono ?_); (case side1 => repeat (first | exact (Kd.zX HR0_0.out (eG HB.out)) | (with_reducible refine Kd.zP ?_ _) | (with_reducible refine Kd.zO ?_ _) | (with_reducible refine Kd.zY ?_))); (case side2 => exact HC0_0.out); rintro e w' ⟨rfl, ⟨nd, rfl⟩⟩; refine ⟨_, rfl, ?_⟩))
               go_ret
               exact ⟨by first | rfl | (simp [zI, zH] <;> rfl) | (simp [*, zI, zH] <;> rfl), eG HB.out⟩
end Go.Proofs.YtmdfnambaedllaaDoor.Pr
namespace Go.Proofs.YtmdfnambaedllaaDoor.Pr
open Go.RowKit Go.Proofs.YtmdfnambaedllaaDoorW.PrintWords Go.Proofs.YtmdfnambaedllaaDoorW.PrintLast Go.Proofs.YtmdfnambaedllaaDoorW.PrintMore Go.Proofs.YtmdfnambaedllaaDoor.X
attribute [local go_sem] kJ kH zAS zAR uF uE kI kG   -- for this text's walks alone
set_option linter.unusedVariables false
set_option linter.unusedSimpArgs false
def uM.f (a0 : Int) (l1_0 : List Int) (a2_0 : Int) : Option (Bool) := if 0 ≤ a0 then (if a0 < (l1_0.length : Int) then (some (decide ((rd l1_0 a0) > a2_0))) else (none)) else (none)
set_option maxHeartbeats 8000000 in
set_option maxRecDepth 100000 in
theorem uM.calls (a0 : Int) (B1 : Nat) (A1_0 : Option Addr) (c1_0 : Nat) (l1_0 : List Int) (B2 : Nat) (a2_0 : Int) (r : Bool) (w : World) (hr1_0 : Kd.C (Kd.int .i64) w A1_0 l1_0.length l1_0) (zXI : l1_0.length ≤ c1_0) (hb1 : w.heap[B1]? = some (.cells #[.slice A1_0 l1_0.length c1_0] 22 (0, 0))) (hb2 : w.heap[B2]? = some (.cells #[.int .i64 a2_0] 3 (0, 0))) (h : uM.f a0 l1_0 a2_0 = some r) :
  Calls Tryd.prog 55 #[.int .i64 a0, .pointer (some ⟨B1, 0, none⟩), .pointer (some ⟨B2, 0, none⟩)] w fun e w' => e = .returned (.bool r) ∧ wI w w' := by
 have HR1_0 := zA.mk hr1_0; have HC1_0 := zA.mk zXI; clear hr1_0 zXI; have zRA := zA.mk hb1; clear hb1; have zCH := zA.mk hb2; clear hb2; have H : (if 0 ≤ a0 then (if a0 < (l1_0.length : Int) then (some (decide ((rd l1_0 a0) > a2_0))) else (none)) else (none)) = some r := h; clear h; by_cases c4 : 0 ≤ a0
 ·
  rw [if_pos c4] at H; have c4b0 : decide (0 ≤ a0) = true := decide_eq_true c4; clear c4; by_cases c5 : a0 < (l1_0.length : Int)
  ·
   rw [if_pos c5] at H; have c5b0 : decide (a0 < (l1_0.length : Int)) = true := decide_eq_true c5; clear c5; obtain rfl := Option.some.inj H; have zDN : w.cell? ⟨B1, 0, none⟩ = some (.slice A1_0 l1_0.length c1_0) := (zC zRA.out 0).trans rfl; have zDM := zB zRA.out 0; have p125 : 0 ≤ (a0 : Int) := of_decide_eq_true (by first | (with_reducible assumption) | assumption); have q125 : a0 < (l1_0.length : Int) := of_decide_eq_true (by first | (with_reducible assumption) | assumption); obtain ⟨ad125, e125, hx125_0⟩ := Kd.qC HR1_0.out a0 p125 q125; cases e125; replace p125 := eq_true p125; replace q125 := eq_true q125; have hcz7_0 : w.cell? ⟨B2, 0, none⟩ = some (.int .i64 a2_0) := (zC zCH.out 0).trans rfl; have hfz7_0 := zB zCH.out 0; go_enter Tryd.func55, Tryd.ntmps55
   go_wp2; repeat (go_quiet (fail); try go_wp2)
   go_ret
   exact ⟨by first | rfl | (simp; done) | (simp [*]; done), by repeat (first | exact wI.refl _ | apply wI.step)⟩
  · rw [if_neg c5] at H; exact absurd H (by simp)
 · rw [if_neg c4] at H; exact absurd H (by simp)
def vF.l0 : Nat → Int → Int → List Int → Int → Option (Int)
 | 0, _, _, _, _ => none
 | k + 1, x5, x6, zGH, zNL => if x5 < x6 then ((uM.f (wrap64 ((IntKind.u64.wrap (wrap64 (x5 + x6))) / 2)) zGH zNL).bind fun t126 => (if t126 = true then (vF.l0 k x5 (wrap64 ((IntKind.u64.wrap (wrap64 (x5 + x6))) / 2)) zGH zNL) else (vF.l0 k (wrap64 ((wrap64 ((IntKind.u64.wrap (wrap64 (x5 + x6))) / 2)) + 1)) x6 zGH zNL))) else (some x5)
def vF.f (k : Nat) (a0 : Int)  (l2_0 : List Int) (a3_0 : Int) : Option (Int) := vF.l0 k 0 a0 l2_0 a3_0
set_option maxHeartbeats 8000000 in
set_option maxRecDepth 100000 in
theorem vF.calls (k : Nat) (a0 : Int)  (B2 : Nat) (A2_0 : Option Addr) (c2_0 : Nat) (l2_0 : List Int) (B3 : Nat) (a3_0 : Int) (r : Int) (w : World) (hr2_0 : Kd.C (Kd.int .i64) w A2_0 l2_0.length l2_0) (hc2_0 : l2_0.length ≤ c2_0) (hb2 : w.heap[B2]? = some (.cells #[.slice A2_0 l2_0.length c2_0] 22 (0, 0))) (hb3 : w.heap[B3]? = some (.cells #[.int .i64 a3_0] 3 (0, 0))) (h : vF.f k a0 l2_0 a3_0 = some r) :
  Calls Tryd.prog 32 #[.int .i64 a0, .func (.func 55) #[] #[.pointer (some ⟨B2, 0, none⟩), .pointer (some ⟨B3, 0, none⟩)]] w fun e w' => e = .returned (.int .i64 r) ∧ wI w w' := by
 have HR2_0 := zA.mk hr2_0; have HC2_0 := zA.mk hc2_0; clear hr2_0 hc2_0; have zCH := zA.mk hb2; clear hb2; have zNK := zA.mk hb3; clear hb3; have H : (vF.l0 k 0 a0 l2_0 a3_0) = some r := h; clear h; have H' := zA.mk H; clear H; go_enter Tryd.func32, Tryd.ntmps32
 go_wp2; go_loopg [5, 6] k (fun kq v5 v6 w' => ∃ (x5_1 : Int) (x6_1 : Int), v5 = .int .i64 x5_1 ∧ v6 = .int .i64 x6_1 ∧ zA (vF.l0 kq x5_1 x6_1 l2_0 a3_0 = some r) ∧ zA (kq ≤ k) ∧ zA (w'.heap[B2]? = some (.cells #[(.slice A2_0 l2_0.length c2_0)] 22 (0, 0))) ∧ zA (w'.heap[B3]? = some (.cells #[.int .i64 a3_0] 3 (0, 0))) ∧ wI w w')
 case atStart => exact ⟨(0), (a0), (by first | rfl | (simp; done) | (simp [*]; done)), (by first | rfl | (simp; done) | (simp [*]; done)), H', ⟨Nat.le_refl _⟩, ⟨by (with_reducible repeat first | apply bN | apply bD | apply bA); exact zCH.out⟩, ⟨by (with_reducible repeat first | apply bN | apply bD | apply bA); exact zNK.out⟩, by repeat (first | exact wI.refl _ | apply wI.step)⟩
 case round =>
  clear H'; try clear c2
  try clear p2
  try clear c3
  obtain ⟨x5_1, x6_1, rfl, rfl, HA, HK1, zCH, zNK, ⟨m1, rfl⟩⟩ := hrel
  cases gk with
  | zero => exact absurd HA.out (by simp [vF.l0])
  | succ k1 =>
   have H := HA.out; clear HA; simp only [vF.l0] at H; by_cases c5 : x5_1 < x6_1
   ·
    rw [if_pos c5] at H; have c5b0 : decide (x5_1 < x6_1) = true := decide_eq_true c5; clear c5; replace H := Option.bind_eq_some_iff.mp H; obtain ⟨t126, A60, H⟩ := H; replace H : (if t126 = true then (vF.l0 k1 x5_1 (wrap64 ((IntKind.u64.wrap (wrap64 (x5_1 + x6_1))) / 2)) l2_0 a3_0) else (vF.l0 k1 (wrap64 ((wrap64 ((IntKind.u64.wrap (wrap64 (x5_1 + x6_1))) / 2)) + 1)) x6_1 l2_0 a3_0)) = some r := H; have A6 := zA.mk A60; clear A60; by_cases c7 : t126 = true
    ·
     subst c7; have H1 : (vF.l0 k1 x5_1 (wrap64 ((IntKind.u64.wrap (wrap64 (x5_1 + x6_1))) / 2)) l2_0 a3_0) = some r := by rw [if_pos rfl] at H; exact H
     clear H; have H := H1; clear H1; have H' := zA.mk H; clear H; go_wp2_with (first | (go_at_call 55; (with_reducible refine (uM.calls (wrap64 ((IntKind.u64.wrap (wrap64 (x5_1 + x6_1))) / 2))  B2 A2_0 c2_0 l2_0 B3 a3_0 true _ ?side1 ?side2 ?side3 ?side4 A6.out).mono ?_); (case side1 => repeat (first | exact HR2_0.out | (with_reducible refine Kd.zP ?_ _) | (with_reducible refine Kd.zO ?_ _) | (with_reducible refine Kd.zY ?_))); (case side2 => exact HC2_0.out); (case side3 => (with_reducible repeat first | apply bN | apply bD | apply bA); exact zCH.out); (case side4 => (with_reducible repeat first | apply bN | apply bD | apply bA); exact zNK.out); rintro e w' ⟨rfl, ⟨nd, rfl⟩⟩))
     go_roundg k1
     case measure => have := HK1.out; omega
     case rel => exact ⟨(x5_1), (wrap64 ((IntKind.u64.wrap (wrap64 (x5_1 + x6_1))) / 2)), (by first | rfl | (simp; done) | (simp [*]; done)), (by first | rfl | (simp; done) | (simp [*]; done)), H', ⟨by have := HK1.out; omega⟩, ⟨by (with_reducible repeat first | apply bN | apply bD | apply bA); exact zCH.out⟩, ⟨by (with_reducible repeat first | apply bN | apply bD | apply bA); exact zNK.out⟩, by repeat (first | exact wI.refl _ | apply wI.step)⟩
    ·
     replace c7 := Bool.eq_false_iff.mpr c7; subst c7; have H1 : (vF.l0 k1 (wrap64 ((wrap64 ((IntKind.u64.wrap (wrap64 (x5_1 + x6_1))) / 2)) + 1)) x6_1 l2_0 a3_0) = some r := by rw [if_neg (show ¬ (false = true) by decide)] at H; exact H
     clear H; have H := H1; clear H1; have H' := zA.mk H; clear H; go_wp2_with (first | (go_at_call 55; (with_reducible refine (uM.calls (wrap64 ((IntKind.u64.wrap (wrap64 (x5_1 + x6_1))) / 2))  B2 A2_0 c2_0 l2_0 B3 a3_0 false _ ?side1 ?side2 ?side3 ?side4 A6.out).mono ?_); (case side1 => repeat (first | exact HR2_0.out | (with_reducible refine Kd.zP ?_ _) | (with_reducible refine Kd.zO ?_ _) | (with_reducible refine Kd.zY ?_))); (case side2 => exact HC2_0.out); (case side3 => (with_reducible repeat first | apply bN | apply bD | apply bA); exact zCH.out); (case side4 => (with_reducible repeat first | apply bN | apply bD | apply bA); exact zNK.out); rintro e w' ⟨rfl, ⟨nd, rfl⟩⟩))
     go_roundg k1
     case measure => have := HK1.out; omega
     case rel => exact ⟨(wrap64 ((wrap64 ((IntKind.u64.wrap (wrap64 (x5_1 + x6_1))) / 2)) + 1)), (x6_1), (by first | rfl | (simp; done) | (simp [*]; done)), (by first | rfl | (simp; done) | (simp [*]; done)), H', ⟨by have := HK1.out; omega⟩, ⟨by (with_reducible repeat first | apply bN | apply bD | apply bA); exact zCH.out⟩, ⟨by (with_reducible repeat first | apply bN | apply bD | apply bA); exact zNK.out⟩, by repeat (first | exact wI.refl _ | apply wI.step)⟩
   ·
    rw [if_neg c5] at H; have c5b0 : decide (x5_1 < x6_1) = false := decide_eq_false c5; clear c5; obtain rfl := Option.some.inj H; go_wp2; go_ret
    exact ⟨by first | rfl | (simp; done) | (simp [*]; done), by repeat (first | exact wI.refl _ | apply wI.step)⟩
def qU.f (k : Nat) (l0 : List Int) (a1 : Int) : Option (Int × Bool) := if 0 < (l0.length : Int) then (if a1 < (rd l0 0) then (some (0, false)) else (if 0 ≤ (wrap64 ((l0.length : Int) - 1)) then (if (wrap64 ((l0.length : Int) - 1)) < (l0.length : Int) then (if a1 > (rd l0 (wrap64 ((l0.length : Int) - 1))) then (some (0, false)) else ((vF.f k (l0.length : Int) l0 a1).bind fun t131 => (some (mn (wrap64 (t131 - 1)) (wrap64 ((l0.length : Int) - 2)), true)))) else (none)) else (none))) else (none)
set_option maxHeartbeats 8000000 in
set_option maxRecDepth 100000 in
theorem qU.calls (k : Nat) (A0 : Option Addr) (c0 : Nat) (l0 : List Int) (a1 : Int) (r1 : Int) (r2 : Bool) (w : World) (hr0 : Kd.C (Kd.int .i64) w A0 l0.length l0) (hc0 : l0.length ≤ c0) (h : qU.f k l0 a1 = some (r1, r2)) :
  Calls Tryd.prog 31 #[.slice A0 l0.length c0, .int .i64 a1] w fun e w' => e = .returned (.tuple #[.int .i64 r1, .bool r2]) ∧ Below w.heap.size w w' := by
 have hu22 := Tryd.underlying22; have hu3 := Tryd.underlying3; have HR0 := zA.mk hr0; have HC0 := zA.mk hc0; clear hr0 hc0; have HB := zA.mk (Below.refl w.heap.size w); have H : (if 0 < (l0.length : Int) then (if a1 < (rd l0 0) then (some (0, false)) else (if 0 ≤ (wrap64 ((l0.length : Int) - 1)) then (if (wrap64 ((l0.length : Int) - 1)) < (l0.length : Int) then (if a1 > (rd l0 (wrap64 ((l0.length : Int) - 1))) then (some (0, false)) else ((vF.f k (l0.length : Int) l0 a1).bind fun t131 => (some (mn (wrap64 (t131 - 1)) (wrap64 ((l0.length : Int) - 2)), true)))) else (none)) else (none))) else (none)) = some (r1, r2) := h; clear h; by_cases c3 : 0 < (l0.length : Int)
 ·
  rw [if_pos c3] at H; have c3b0 : decide (0 < (l0.length : Int)) = true := decide_eq_true c3; have c3b1 : decide (0 < l0.length) = true := decide_eq_true (by omega); clear c3; by_cases c4 : a1 < (rd l0 0)
  ·
   rw [if_pos c4] at H; have c4b0 : decide (a1 < (rd l0 0)) = true := decide_eq_true c4; clear c4; simp only [Option.some.injEq, Prod.mk.injEq] at H; obtain ⟨rfl, rfl⟩ := H; go_enter Tryd.func31, Tryd.ntmps31
   go_wp2_with (first | ((with_reducible refine vH (N := 2) rfl ?_); (try (refine vJ (by rfl) ?_; dsimp only)); refine vD ?hg (N := 2) ?hd (cs := #[.slice A0 l0.length c0]) (t := 22) ?hr ?_; (case hd => rfl); (case hg => rfl); (case hr => first | (go_simp; done) | (go_simp; rfl)); intro jP hg w5 hbox hb; have n0_ := zA.mk (zG (eG HB.out) hb); have n1_ := zA.mk (hbox); have n2_ := zA.mk ((by rw [hg]; exact (zD (eG HB.out)) : w.heap.size ≤ jP)); have n3_ := zA.mk ((by rw [hg]; exact (zD (eG HB.out)) : w.heap.size ≤ jP)); clear HB; have HB := n0_; have yH := n1_; have zQY := n2_; have zGE := n3_; have zJX := geI zGE; clear n0_ n1_ n2_ n3_; clear hb hbox hg) | ((with_reducible refine vH (N := 3) rfl ?_); (try (refine vJ (by rfl) ?_; dsimp only)); refine vD ?hg (N := 3) ?hd (cs := #[.int .i64 a1]) (t := 3) ?hr ?_; (case hd => rfl); (case hg => rfl); (case hr => first | (go_simp; done) | (go_simp; rfl)); intro jO hg w6 hbox hb; have n0_ := zA.mk (zM (bG yH.out) hb); have n1_ := zA.mk (zG (eG HB.out) hb); have n2_ := zA.mk (hbox); have n3_ := zA.mk ((by rw [hg]; exact (zD (eG HB.out)) : w.heap.size ≤ jO)); have n4_ := zA.mk ((by rw [hg]; exact (zD (eG HB.out)) : w.heap.size ≤ jO)); have n5_ := zA.mk ((by rw [hg]; exact Nat.ne_of_lt (yG (bG yH.out)) : jP ≠ jO)); have n6_ := zA.mk ((by rw [hg]; exact Nat.ne_of_gt (yG (bG yH.out)) : jO ≠ jP)); clear yH; clear HB; have yH := n0_; have HB := n1_; have zBX := n2_; have zQX := n3_; have zGD := n4_; have zJW := geI zGD; have jY := n5_; have jX := n6_; clear n0_ n1_ n2_ n3_ n4_ n5_ n6_; clear hb hbox hg; have hnb7 := jX.out; have hnc7 := jY.out; have zHS : w6.cell? ⟨jO, 0, none⟩ = some (.int .i64 a1) := (zC zBX.out 0).trans rfl; have zHR := zB zBX.out 0; have zEG : w6.cell? ⟨jP, 0, none⟩ = some (.slice A0 l0.length c0) := (zC yH.out 0).trans rfl; have zED := zB yH.out 0; have p129 : 0 ≤ (0 : Int) := (by omega); have q129 : 0 < (l0.length : Int) := of_decide_eq_true (by first | (with_reducible assumption) | assumption); obtain ⟨ad129, e129, qM⟩ := Kd.qC HR0.out 0 p129 q129; cases e129; have qi129 : (0 < l0.length) = True := eq_true (by omega); (try rw [show ((0 : Int)).toNat = 0 from rfl] at qM); (try rw [Addr.add_zero'] at qM); replace qM := (HB.out.cell (World.block_lt_of_cell? w _ qM)).trans qM; replace p129 := eq_true p129; replace q129 := eq_true q129))
   repeat (go_quiet (first | ((with_reducible refine vH (N := 2) rfl ?_); (try (refine vJ (by rfl) ?_; dsimp only)); refine vD ?hg (N := 2) ?hd (cs := #[.slice A0 l0.length c0]) (t := 22) ?hr ?_; (case hd => rfl); (case hg => rfl); (case hr => first | (go_simp; done) | (go_simp; rfl)); intro jP hg w5 hbox hb; have n0_ := zA.mk (zG (eG HB.out) hb); have n1_ := zA.mk (hbox); have n2_ := zA.mk ((by rw [hg]; exact (zD (eG HB.out)) : w.heap.size ≤ jP)); have n3_ := zA.mk ((by rw [hg]; exact (zD (eG HB.out)) : w.heap.size ≤ jP)); clear HB; have HB := n0_; have yH := n1_; have zQY := n2_; have zGE := n3_; have zJX := geI zGE; clear n0_ n1_ n2_ n3_; clear hb hbox hg) | ((with_reducible refine vH (N := 3) rfl ?_); (try (refine vJ (by rfl) ?_; dsimp only)); refine vD ?hg (N := 3) ?hd (cs := #[.int .i64 a1]) (t := 3) ?hr ?_; (case hd => rfl); (case hg => rfl); (case hr => first | (go_simp; done) | (go_simp; rfl)); intro jO hg w6 hbox hb; have n0_ := zA.mk (zM (bG yH.out) hb); have n1_ := zA.mk (zG (eG HB.out) hb); have n2_ := zA.mk (hbox); have n3_ := zA.mk ((by rw [hg]; exact (zD (eG HB.out)) : w.heap.size ≤ jO)); have n4_ := zA.mk ((by rw [hg]; exact (zD (eG HB.out)) : w.heap.size ≤ jO)); have n5_ := zA.mk ((by rw [hg]; exact Nat.ne_of_lt (yG (bG yH.out)) : jP ≠ jO)); have n6_ := zA.mk ((by rw [hg]; exact Nat.ne_of_gt (yG (bG yH.out)) : jO ≠ jP)); clear yH; clear HB; have yH := n0_; have HB := n1_; have zBX := n2_; have zQX := n3_; have zGD := n4_; have zJW := geI zGD; have jY := n5_; have jX := n6_; clear n0_ n1_ n2_ n3_ n4_ n5_ n6_; clear hb hbox hg; have hnb7 := jX.out; have hnc7 := jY.out; have zHS : w6.cell? ⟨jO, 0, none⟩ = some (.int .i64 a1) := (zC zBX.out 0).trans rfl; have zHR := zB zBX.out 0; have zEG : w6.cell? ⟨jP, 0, none⟩ = some (.slice A0 l0.length c0) := (zC yH.out 0).trans rfl; have zED := zB yH.out 0; have p129 : 0 ≤ (0 : Int) := (by omega); have q129 : 0 < (l0.length : Int) := of_decide_eq_true (by first | (with_reducible assumption) | assumption); obtain ⟨ad129, e129, qM⟩ := Kd.qC HR0.out 0 p129 q129; cases e129; have qi129 : (0 < l0.length) = True := eq_true (by omega); (try rw [show ((0 : Int)).toNat = 0 from rfl] at qM); (try rw [Addr.add_zero'] at qM); replace qM := (HB.out.cell (World.block_lt_of_cell? w _ qM)).trans qM; replace p129 := eq_true p129; replace q129 := eq_true q129)); try go_wp2_with (first | ((with_reducible refine vH (N := 2) rfl ?_); (try (refine vJ (by rfl) ?_; dsimp only)); refine vD ?hg (N := 2) ?hd (cs := #[.slice A0 l0.length c0]) (t := 22) ?hr ?_; (case hd => rfl); (case hg => rfl); (case hr => first | (go_simp; done) | (go_simp; rfl)); intro jP hg w5 hbox hb; have n0_ := zA.mk (zG (eG HB.out) hb); have n1_ := zA.mk (hbox); have n2_ := zA.mk ((by rw [hg]; exact (zD (eG HB.out)) : w.heap.size ≤ jP)); have n3_ := zA.mk ((by rw [hg]; exact (zD (eG HB.out)) : w.heap.size ≤ jP)); clear HB; have HB := n0_; have yH := n1_; have zQY := n2_; have zGE := n3_; have zJX := geI zGE; clear n0_ n1_ n2_ n3_; clear hb hbox hg) | ((with_reducible refine vH (N := 3) rfl ?_); (try (refine vJ (by rfl) ?_; dsimp only)); refine vD ?hg (N := 3) ?hd (cs := #[.int .i64 a1]) (t := 3) ?hr ?_; (case hd => rfl); (case hg => rfl); (case hr => first | (go_simp; done) | (go_simp; rfl)); intro jO hg w6 hbox hb; have n0_ := zA.mk (zM (bG yH.out) hb); have n1_ := zA.mk (zG (eG HB.out) hb); have n2_ := zA.mk (hbox); have n3_ := zA.mk ((by rw [hg]; exact (zD (eG HB.out)) : w.heap.size ≤ jO)); have n4_ := zA.mk ((by rw [hg]; exact (zD (eG HB.out)) : w.heap.size ≤ jO)); have n5_ := zA.mk ((by rw [hg]; exact Nat.ne_of_lt (yG (bG yH.out)) : jP ≠ jO)); have n6_ := zA.mk ((by rw [hg]; exact Nat.ne_of_gt (yG (bG yH.out)) : jO ≠ jP)); clear yH; clear HB; have yH := n0_; have HB := n1_; have zBX := n2_; have zQX := n3_; have zGD := n4_; have zJW := geI zGD; have jY := n5_; have jX := n6_; clear n0_ n1_ n2_ n3_ n4_ n5_ n6_; clear hb hbox hg; have hnb7 := jX.out; have hnc7 := jY.out; have zHS : w6.cell? ⟨jO, 0, none⟩ = some (.int .i64 a1) := (zC zBX.out 0).trans rfl; have zHR := zB zBX.out 0; have zEG : w6.cell? ⟨jP, 0, none⟩ = some (.slice A0 l0.length c0) := (zC yH.out 0).trans rfl; have zED := zB yH.out 0; have p129 : 0 ≤ (0 : Int) := (by omega); have q129 : 0 < (l0.length : Int) := of_decide_eq_true (by first | (with_reducible assumption) | assumption); obtain ⟨ad129, e129, qM⟩ := Kd.qC HR0.out 0 p129 q129; cases e129; have qi129 : (0 < l0.length) = True := eq_true (by omega); (try rw [show ((0 : Int)).toNat = 0 from rfl] at qM); (try rw [Addr.add_zero'] at qM); replace qM := (HB.out.cell (World.block_lt_of_cell? w _ qM)).trans qM; replace p129 := eq_true p129; replace q129 := eq_true q129)))
   go_ret2
   exact ⟨by first | rfl | (simp [zI, zH] <;> rfl) | (simp [*, zI, zH] <;> rfl), eG HB.out⟩
  ·
   rw [if_neg c4] at H; have c4b0 : decide (a1 < (rd l0 0)) = false := decide_eq_false c4; clear c4; obtain ⟨ji10, hji10⟩ : ∃ j_ : Int, (wrap64 ((l0.length : Int) - 1)) = j_ := ⟨_, rfl⟩; replace H : (if 0 ≤ (ji10) then (if (ji10) < (l0.length : Int) then (if a1 > (rd l0 (ji10)) then (some (0, false)) else ((vF.f k (l0.length : Int) l0 a1).bind fun t131 => (some (mn (wrap64 (t131 - 1)) (wrap64 ((l0.length : Int) - 2)), true)))) else (none)) else (none)) = some (r1, r2) := by first | (rw [hji10] at H; exact H) | (simp only [hji10] at H ⊢; exact H)
   have hji10w : (IntKind.i64.wrap ((l0.length : Int) - 1)) = ji10 := (wX _).trans hji10; by_cases c11 : 0 ≤ (ji10)
   ·
    rw [if_pos c11] at H; have c11b0 : decide (0 ≤ (ji10)) = true := decide_eq_true c11; clear c11; by_cases c12 : (ji10) < (l0.length : Int)
    ·
     rw [if_pos c12] at H; have c12b0 : decide ((ji10) < (l0.length : Int)) = true := decide_eq_true c12; clear c12; by_cases c13 : a1 > (rd l0 (ji10))
     ·
      rw [if_pos c13] at H; have c13b0 : decide ((rd l0 (ji10)) < a1) = true := decide_eq_true c13; clear c13; simp only [Option.some.injEq, Prod.mk.injEq] at H; obtain ⟨rfl, rfl⟩ := H; go_enter Tryd.func31, Tryd.ntmps31
      go_wp2_with (first | ((with_reducible refine vH (N := 2) rfl ?_); (try (refine vJ (by rfl) ?_; dsimp only)); refine vD ?hg (N := 2) ?hd (cs := #[.slice A0 l0.length c0]) (t := 22) ?hr ?_; (case hd => rfl); (case hg => rfl); (case hr => first | (go_simp; done) | (go_simp; rfl)); intro jP hg w14 hbox hb; have n0_ := zA.mk (zG (eG HB.out) hb); have n1_ := zA.mk (hbox); have n2_ := zA.mk ((by rw [hg]; exact (zD (eG HB.out)) : w.heap.size ≤ jP)); have n3_ := zA.mk ((by rw [hg]; exact (zD (eG HB.out)) : w.heap.size ≤ jP)); clear HB; have HB := n0_; have yH := n1_; have zQY := n2_; have zGE := n3_; have zJX := geI zGE; clear n0_ n1_ n2_ n3_; clear hb hbox hg) | ((with_reducible refine vH (N := 3) rfl ?_); (try (refine vJ (by rfl) ?_; dsimp only)); refine vD ?hg (N := 3) ?hd (cs := #[.int .i64 a1]) (t := 3) ?hr ?_; (case hd => rfl); (case hg => rfl); (case hr => first | (go_simp; done) | (go_simp; rfl)); intro jO hg w15 hbox hb; have n0_ := zA.mk (zM (bG yH.out) hb); have n1_ := zA.mk (zG (eG HB.out) hb); have n2_ := zA.mk (hbox); have n3_ := zA.mk ((by rw [hg]; exact (zD (eG HB.out)) : w.heap.size ≤ jO)); have n4_ := zA.mk ((by rw [hg]; exact (zD (eG HB.out)) : w.heap.size ≤ jO)); have n5_ := zA.mk ((by rw [hg]; exact Nat.ne_of_lt (yG (bG yH.out)) : jP ≠ jO)); have n6_ := zA.mk ((by rw [hg]; exact Nat.ne_of_gt (yG (bG yH.out)) : jO ≠ jP)); clear yH; clear HB; have yH := n0_; have HB := n1_; have zBX := n2_; have zQX := n3_; have zGD := n4_; have zJW := geI zGD; have jY := n5_; have jX := n6_; clear n0_ n1_ n2_ n3_ n4_ n5_ n6_; clear hb hbox hg; have hnb16 := jX.out; have hnc16 := jY.out; have zJJ : w15.cell? ⟨jO, 0, none⟩ = some (.int .i64 a1) := (zC zBX.out 0).trans rfl; have zIW := zB zBX.out 0; have zDA : w15.cell? ⟨jP, 0, none⟩ = some (.slice A0 l0.length c0) := (zC yH.out 0).trans rfl; have zCX := zB yH.out 0; have p129 : 0 ≤ (0 : Int) := (by omega); have q129 : 0 < (l0.length : Int) := of_decide_eq_true (by first | (with_reducible assumption) | assumption); obtain ⟨ad129, e129, qM⟩ := Kd.qC HR0.out 0 p129 q129; cases e129; have qi129 : (0 < l0.length) = True := eq_true (by omega); (try rw [show ((0 : Int)).toNat = 0 from rfl] at qM); (try rw [Addr.add_zero'] at qM); replace qM := (HB.out.cell (World.block_lt_of_cell? w _ qM)).trans qM; replace p129 := eq_true p129; replace q129 := eq_true q129; have p130 : 0 ≤ ((ji10) : Int) := of_decide_eq_true (by first | (with_reducible assumption) | assumption); have q130 : (ji10) < (l0.length : Int) := of_decide_eq_true (by first | (with_reducible assumption) | assumption); obtain ⟨ad130, e130, uL⟩ := Kd.qC HR0.out (ji10) p130 q130; obtain rfl : ad129 = ad130 := (by injection e130); replace uL := (HB.out.cell (World.block_lt_of_cell? w _ uL)).trans uL; replace p130 := eq_true p130; replace q130 := eq_true q130))
      repeat (go_quiet (first | ((with_reducible refine vH (N := 2) rfl ?_); (try (refine vJ (by rfl) ?_; dsimp only)); refine vD ?hg (N := 2) ?hd (cs := #[.slice A0 l0.length c0]) (t := 22) ?hr ?_; (case hd => rfl); (case hg => rfl); (case hr => first | (go_simp; done) | (go_simp; rfl)); intro jP hg w14 hbox hb; have n0_ := zA.mk (zG (eG HB.out) hb); have n1_ := zA.mk (hbox); have n2_ := zA.mk ((by rw [hg]; exact (zD (eG HB.out)) : w.heap.size ≤ jP)); have n3_ := zA.mk ((by rw [hg]; exact (zD (eG HB.out)) : w.heap.size ≤ jP)); clear HB; have HB := n0_; have yH := n1_; have zQY := n2_; have zGE := n3_; have zJX := geI zGE; clear n0_ n1_ n2_ n3_; clear hb hbox hg) | ((with_reducible refine vH (N := 3) rfl ?_); (try (refine vJ (by rfl) ?_; dsimp only)); refine vD ?hg (N := 3) ?hd (cs := #[.int .i64 a1]) (t := 3) ?hr ?_; (case hd => rfl); (case hg => rfl); (case hr => first | (go_simp; done) | (go_simp; rfl)); intro jO hg w15 hbox hb; have n0_ := zA.mk (zM (bG yH.out) hb); have n1_ := zA.mk (zG (eG HB.out) hb); have n2_ := zA.mk (hbox); have n3_ := zA.mk ((by rw [hg]; exact (zD (eG HB.out)) : w.heap.size ≤ jO)); have n4_ := zA.mk ((by rw [hg]; exact (zD (eG HB.out)) : w.heap.size ≤ jO)); have n5_ := zA.mk ((by rw [hg]; exact Nat.ne_of_lt (yG (bG yH.out)) : jP ≠ jO)); have n6_ := zA.mk ((by rw [hg]; exact Nat.ne_of_gt (yG (bG yH.out)) : jO ≠ jP)); clear yH; clear HB; have yH := n0_; have HB := n1_; have zBX := n2_; have zQX := n3_; have zGD := n4_; have zJW := geI zGD; have jY := n5_; have jX := n6_; clear n0_ n1_ n2_ n3_ n4_ n5_ n6_; clear hb hbox hg; have hnb16 := jX.out; have hnc16 := jY.out; have zJJ : w15.cell? ⟨jO, 0, none⟩ = some (.int .i64 a1) := (zC zBX.out 0).trans rfl; have zIW := zB zBX.out 0; have zDA : w15.cell? ⟨jP, 0, none⟩ = some (.slice A0 l0.length c0) := (zC yH.out 0).trans rfl; have zCX := zB yH.out 0; have p129 : 0 ≤ (0 : Int) := (by omega); have q129 : 0 < (l0.length : Int) := of_decide_eq_true (by first | (with_reducible assumption) | assumption); obtain ⟨ad129, e129, qM⟩ := Kd.qC HR0.out 0 p129 q129; cases e129; have qi129 : (0 < l0.length) = True := eq_true (by omega); (try rw [show ((0 : Int)).toNat = 0 from rfl] at qM); (try rw [Addr.add_zero'] at qM); replace qM := (HB.out.cell (World.block_lt_of_cell? w _ qM)).trans qM; replace p129 := eq_true p129; replace q129 := eq_true q129; have p130 : 0 ≤ ((ji10) : Int) := of_decide_eq_true (by first | (with_reducible assumption) | assumption); have q130 : (ji10) < (l0.length : Int) := of_decide_eq_true (by first | (with_reducible assumption) | assumption); obtain ⟨ad130, e130, uL⟩ := Kd.qC HR0.out (ji10) p130 q130; obtain rfl : ad129 = ad130 := (by injection e130); replace uL := (HB.out.cell (World.block_lt_of_cell? w _ uL)).trans uL; replace p130 := eq_true p130; replace q130 := eq_true q130)); try go_wp2_with (first | ((with_reducible refine vH (N := 2) rfl ?_); (try (refine vJ (by rfl) ?_; dsimp only)); refine vD ?hg (N := 2) ?hd (cs := #[.slice A0 l0.length c0]) (t := 22) ?hr ?_; (case hd => rfl); (case hg => rfl); (case hr => first | (go_simp; done) | (go_simp; rfl)); intro jP hg w14 hbox hb; have n0_ := zA.mk (zG (eG HB.out) hb); have n1_ := zA.mk (hbox); have n2_ := zA.mk ((by rw [hg]; exact (zD (eG HB.out)) : w.heap.size ≤ jP)); have n3_ := zA.mk ((by rw [hg]; exact (zD (eG HB.out)) : w.heap.size ≤ jP)); clear HB; have HB := n0_; have yH := n1_; have zQY := n2_; have zGE := n3_; have zJX := geI zGE; clear n0_ n1_ n2_ n3_; clear hb hbox hg) | ((with_reducible refine vH (N := 3) rfl ?_); (try (refine vJ (by rfl) ?_; dsimp only)); refine vD ?hg (N := 3) ?hd (cs := #[.int .i64 a1]) (t := 3) ?hr ?_; (case hd => rfl); (case hg => rfl); (case hr => first | (go_simp; done) | (go_simp; rfl)); intro jO hg w15 hbox hb; have n0_ := zA.mk (zM (bG yH.out) hb); have n1_ := zA.mk (zG (eG HB.out) hb); have n2_ := zA.mk (hbox); have n3_ := zA.mk ((by rw [hg]; exact (zD (eG HB.out)) : w.heap.size ≤ jO)); have n4_ := zA.mk ((by rw [hg]; exact (zD (eG HB.out)) : w.heap.size ≤ jO)); have n5_ := zA.mk ((by rw [hg]; exact Nat.ne_of_lt (yG (bG yH.out)) : jP ≠ jO)); have n6_ := zA.mk ((by rw [hg]; exact Nat.ne_of_gt (yG (bG yH.out)) : jO ≠ jP)); clear yH; clear HB; have yH := n0_; have HB := n1_; have zBX := n2_; have zQX := n3_; have zGD := n4_; have zJW := geI zGD; have jY := n5_; have jX := n6_; clear n0_ n1_ n2_ n3_ n4_ n5_ n6_; clear hb hbox hg; have hnb16 := jX.out; have hnc16 := jY.out; have zJJ : w15.cell? ⟨jO, 0, none⟩ = some (.int .i64 a1) := (zC zBX.out 0).trans rfl; have zIW := zB zBX.out 0; have zDA : w15.cell? ⟨jP, 0, none⟩ = some (.slice A0 l0.length c0) := (zC yH.out 0).trans rfl; have zCX := zB yH.out 0; have p129 : 0 ≤ (0 : Int) := (by omega); have q129 : 0 < (l0.length : Int) := of_decide_eq_true (by first | (with_reducible assumption) | assumption); obtain ⟨ad129, e129, qM⟩ := Kd.qC HR0.out 0 p129 q129; cases e129; have qi129 : (0 < l0.length) = True := eq_true (by omega); (try rw [show ((0 : Int)).toNat = 0 from rfl] at qM); (try rw [Addr.add_zero'] at qM); replace qM := (HB.out.cell (World.block_lt_of_cell? w _ qM)).trans qM; replace p129 := eq_true p129; replace q129 := eq_true q129; have p130 : 0 ≤ ((ji10) : Int) := of_decide_eq_true (by first | (with_reducible assumption) | assumption); have q130 : (ji10) < (l0.length : Int) := of_decide_eq_true (by first | (with_reducible assumption) | assumption); obtain ⟨ad130, e130, uL⟩ := Kd.qC HR0.out (ji10) p130 q130; obtain rfl : ad129 = ad130 := (by injection e130); replace uL := (HB.out.cell (World.block_lt_of_cell? w _ uL)).trans uL; replace p130 := eq_true p130; replace q130 := eq_true q130)))
      go_ret2
      exact ⟨by first | rfl | (simp [zI, zH] <;> rfl) | (simp only [← hji10]; first | rfl | (simp [zI, zH] <;> rfl)) | (simp [*, zI, zH] <;> rfl), eG HB.out⟩
     ·
      rw [if_neg c13] at H; have c13b0 : decide ((rd l0 (ji10)) < a1) = false := decide_eq_false c13; clear c13; replace H := Option.bind_eq_some_iff.mp H; obtain ⟨t131, A190, H⟩ := H; replace H : (some (mn (wrap64 (t131 - 1)) (wrap64 ((l0.length : Int) - 2)), true)) = some (r1, r2) := H; have A19 := zA.mk A190; clear A190; obtain ⟨ji20, hji20⟩ : ∃ j_ : Int, (mn (wrap64 (t131 - 1)) (wrap64 ((l0.length : Int) - 2))) = j_ := ⟨_, rfl⟩; replace H : (some (ji20, true)) = some (r1, r2) := by first | (rw [hji20] at H; exact H) | (simp only [hji20] at H ⊢; exact H)
      (try rw [hji20] at A19)
      have hji20_ : (if (wrap64 ((l0.length : Int) - 2)) < (wrap64 (t131 - 1)) then (wrap64 ((l0.length : Int) - 2)) else (wrap64 (t131 - 1))) = ji20 := hji20; simp only [Option.some.injEq, Prod.mk.injEq] at H; obtain ⟨rfl, rfl⟩ := H; go_enter Tryd.func31, Tryd.ntmps31
      go_wp2_with (first | ((with_reducible refine vH (N := 2) rfl ?_); (try (refine vJ (by rfl) ?_; dsimp only)); refine vD ?hg (N := 2) ?hd (cs := #[.slice A0 l0.length c0]) (t := 22) ?hr ?_; (case hd => rfl); (case hg => rfl); (case hr => first | (go_simp; done) | (go_simp; rfl)); intro jP hg w21 hbox hb; have n0_ := zA.mk (zG (eG HB.out) hb); have n1_ := zA.mk (hbox); have n2_ := zA.mk ((by rw [hg]; exact (zD (eG HB.out)) : w.heap.size ≤ jP)); have n3_ := zA.mk ((by rw [hg]; exact (zD (eG HB.out)) : w.heap.size ≤ jP)); clear HB; have HB := n0_; have yH := n1_; have zQY := n2_; have zGE := n3_; have zJX := geI zGE; clear n0_ n1_ n2_ n3_; clear hb hbox hg) | ((with_reducible refine vH (N := 3) rfl ?_); (try (refine vJ (by rfl) ?_; dsimp only)); refine vD ?hg (N := 3) ?hd (cs := #[.int .i64 a1]) (t := 3) ?hr ?_; (case hd => rfl); (case hg => rfl); (case hr => first | (go_simp; done) | (go_simp; rfl)); intro jO hg w22 hbox hb; have n0_ := zA.mk (zM (bG yH.out) hb); have n1_ := zA.mk (zG (eG HB.out) hb); have n2_ := zA.mk (hbox); have n3_ := zA.mk ((by rw [hg]; exact (zD (eG HB.out)) : w.heap.size ≤ jO)); have n4_ := zA.mk ((by rw [hg]; exact (zD (eG HB.out)) : w.heap.size ≤ jO)); have n5_ := zA.mk ((by rw [hg]; exact Nat.ne_of_lt (yG (bG yH.out)) : jP ≠ jO)); have n6_ := zA.mk ((by rw [hg]; exact Nat.ne_of_gt (yG (bG yH.out)) : jO ≠ jP)); clear yH; clear HB; have yH := n0_; have HB := n1_; have zBX := n2_; have zQX := n3_; have zGD := n4_; have zJW := geI zGD; have jY := n5_; have jX := n6_; clear n0_ n1_ n2_ n3_ n4_ n5_ n6_; clear hb hbox hg; have hnb23 := jX.out; have hnc23 := jY.out; have zSV : w22.cell? ⟨jO, 0, none⟩ = some (.int .i64 a1) := (zC zBX.out 0).trans rfl; have zSM := zB zBX.out 0; have zCZ : w22.cell? ⟨jP, 0, none⟩ = some (.slice A0 l0.length c0) := (zC yH.out 0).trans rfl; have zCW := zB yH.out 0; have p129 : 0 ≤ (0 : Int) := (by omega); have q129 : 0 < (l0.length : Int) := of_decide_eq_true (by first | (with_reducible assumption) | assumption); obtain ⟨ad129, e129, qM⟩ := Kd.qC HR0.out 0 p129 q129; cases e129; have qi129 : (0 < l0.length) = True := eq_true (by omega); (try rw [show ((0 : Int)).toNat = 0 from rfl] at qM); (try rw [Addr.add_zero'] at qM); replace qM := (HB.out.cell (World.block_lt_of_cell? w _ qM)).trans qM; replace p129 := eq_true p129; replace q129 := eq_true q129; have p130 : 0 ≤ ((ji10) : Int) := of_decide_eq_true (by first | (with_reducible assumption) | assumption); have q130 : (ji10) < (l0.length : Int) := of_decide_eq_true (by first | (with_reducible assumption) | assumption); obtain ⟨ad130, e130, uL⟩ := Kd.qC HR0.out (ji10) p130 q130; obtain rfl : ad129 = ad130 := (by injection e130); replace uL := (HB.out.cell (World.block_lt_of_cell? w _ uL)).trans uL; replace p130 := eq_true p130; replace q130 := eq_true q130) | (go_at_call 32; (with_reducible refine (vF.calls k (l0.length : Int)  jP (some ad129) c0 l0 jO a1 t131 _ ?side1 ?side2 ?side3 ?side4 A19.out).mono ?_); (case side1 => repeat (first | exact (Kd.zX HR0.out HB.out) | (with_reducible refine Kd.zP ?_ _) | (with_reducible refine Kd.zO ?_ _) | (with_reducible refine Kd.zY ?_))); (case side2 => exact HC0.out); (case side3 => (with_reducible repeat first | apply bN | apply bD | apply bA); exact yH.out); (case side4 => (with_reducible repeat first | apply bN | apply bD | apply bA); exact zBX.out); rintro e w' ⟨rfl, ⟨nd, rfl⟩⟩; (try first | exact ⟨rfl, _, World.drewN_drewN _ _ _⟩ | exact ⟨rfl, _, Eq.trans (World.drewN_drewN _ _ _) (congrArg (World.drewN _) (Nat.add_assoc _ _ _))⟩)))
      repeat (go_quiet (first | ((with_reducible refine vH (N := 2) rfl ?_); (try (refine vJ (by rfl) ?_; dsimp only)); refine vD ?hg (N := 2) ?hd (cs := #[.slice A0 l0.length c0]) (t := 22) ?hr ?_; (case hd => rfl); (case hg => rfl); (case hr => first | (go_simp; done) | (go_simp; rfl)); intro jP hg w21 hbox hb; have n0_ := zA.mk (zG (eG HB.out) hb); have n1_ := zA.mk (hbox); have n2_ := zA.mk ((by rw [hg]; exact (zD (eG HB.out)) : w.heap.size ≤ jP)); have n3_ := zA.mk ((by rw [hg]; exact (zD (eG HB.out)) : w.heap.size ≤ jP)); clear HB; have HB := n0_; have yH := n1_; have zQY := n2_; have zGE := n3_; have zJX := geI zGE; clear n0_ n1_ n2_ n3_; clear hb hbox hg) | ((with_reducible refine vH (N := 3) rfl ?_); (try (refine vJ (by rfl) ?_; dsimp only)); refine vD ?hg (N := 3) ?hd (cs := #[.int .i64 a1]) (t := 3) ?hr ?_; (case hd => rfl); (case hg => rfl); (case hr => first | (go_simp; done) | (go_simp; rfl)); intro jO hg w22 hbox hb; have n0_ := zA.mk (zM (bG yH.out) hb); have n1_ := zA.mk (zG (eG HB.out) hb); have n2_ := zA.mk (hbox); have n3_ := zA.mk ((by rw [hg]; exact (zD (eG HB.out)) : w.heap.size ≤ jO)); have n4_ := zA.mk ((by rw [hg]; exact (zD (eG HB.out)) : w.heap.size ≤ jO)); have n5_ := zA.mk ((by rw [hg]; exact Nat.ne_of_lt (yG (bG yH.out)) : jP ≠ jO)); have n6_ := zA.mk ((by rw [hg]; exact Nat.ne_of_gt (yG (bG yH.out)) : jO ≠ jP)); clear yH; clear HB; have yH := n0_; have HB := n1_; have zBX := n2_; have zQX := n3_; have zGD := n4_; have zJW := geI zGD; have jY := n5_; have jX := n6_; clear n0_ n1_ n2_ n3_ n4_ n5_ n6_; clear hb hbox hg; have hnb23 := jX.out; have hnc23 := jY.out; have zSV : w22.cell? ⟨jO, 0, none⟩ = some (.int .i64 a1) := (zC zBX.out 0).trans rfl; have zSM := zB zBX.out 0; have zCZ : w22.cell? ⟨jP, 0, none⟩ = some (.slice A0 l0.length c0) := (zC yH.out 0).trans rfl; have zCW := zB yH.out 0; have p129 : 0 ≤ (0 : Int) := (by omega); have q129 : 0 < (l0.length : Int) := of_decide_eq_true (by first | (with_reducible assumption) | assumption); obtain ⟨ad129, e129, qM⟩ := Kd.qC HR0.out 0 p129 q129; cases e129; have qi129 : (0 < l0.length) = True := eq_true (by omega); (try rw [show ((0 : Int)).toNat = 0 from rfl] at qM); (try rw [Addr.add_zero'] at qM); replace qM := (HB.out.cell (World.block_lt_of_cell? w _ qM)).trans qM; replace p129 := eq_true p129; replace q129 := eq_true q129; have p130 : 0 ≤ ((ji10) : Int) := of_decide_eq_true (by first | (with_reducible assumption) | assumption); have q130 : (ji10) < (l0.length : Int) := of_decide_eq_true (by first | (with_reducible assumption) | assumption); obtain ⟨ad130, e130, uL⟩ := Kd.qC HR0.out (ji10) p130 q130; obtain rfl : ad129 = ad130 := (by injection e130); replace uL := (HB.out.cell (World.block_lt_of_cell? w _ uL)).trans uL; replace p130 := eq_true p130; replace q130 := eq_true q130) | (go_at_call 32; (with_reducible refine (vF.calls k (l0.length : Int)  jP (some ad129) c0 l0 jO a1 t131 _ ?side1 ?side2 ?side3 ?side4 A19.out).mono ?_); (case side1 => repeat (first | exact (Kd.zX HR0.out HB.out) | (with_reducible refine Kd.zP ?_ _) | (with_reducible refine Kd.zO ?_ _) | (with_reducible refine Kd.zY ?_))); (case side2 => exact HC0.out); (case side3 => (with_reducible repeat first | apply bN | apply bD | apply bA); exact yH.out); (case side4 => (with_reducible repeat first | apply bN | apply bD | apply bA); exact zBX.out); rintro e w' ⟨rfl, ⟨nd, rfl⟩⟩; (try first | exact ⟨rfl, _, World.drewN_drewN _ _ _⟩ | exact ⟨rfl, _, Eq.trans (World.drewN_drewN _ _ _) (congrArg (World.drewN _) (Nat.add_assoc _ _ _))⟩))); try go_wp2_with (first | ((with_reducible refine vH (N := 2) rfl ?_); (try (refine vJ (by rfl) ?_; dsimp only)); refine vD ?hg (N := 2) ?hd (cs := #[.slice A0 l0.length c0]) (t := 22) ?hr ?_; (case hd => rfl); (case hg => rfl); (case hr => first | (go_simp; done) | (go_simp; rfl)); intro jP hg w21 hbox hb; have n0_ := zA.mk (zG (eG HB.out) hb); have n1_ := zA.mk (hbox); have n2_ := zA.mk ((by rw [hg]; exact (zD (eG HB.out)) : w.heap.size ≤ jP)); have n3_ := zA.mk ((by rw [hg]; exact (zD (eG HB.out)) : w.heap.size ≤ jP)); clear HB; have HB := n0_; have yH := n1_; have zQY := n2_; have zGE := n3_; have zJX := geI zGE; clear n0_ n1_ n2_ n3_; clear hb hbox hg) | ((with_reducible refine vH (N := 3) rfl ?_); (try (refine vJ (by rfl) ?_; dsimp only)); refine vD ?hg (N := 3) ?hd (cs := #[.int .i64 a1]) (t := 3) ?hr ?_; (case hd => rfl); (case hg => rfl); (case hr => first | (go_simp; done) | (go_simp; rfl)); intro jO hg w22 hbox hb; have n0_ := zA.mk (zM (bG yH.out) hb); have n1_ := zA.mk (zG (eG HB.out) hb); have n2_ := zA.mk (hbox); have n3_ := zA.mk ((by rw [hg]; exact (zD (eG HB.out)) : w.heap.size ≤ jO)); have n4_ := zA.mk ((by rw [hg]; exact (zD (eG HB.out)) : w.heap.size ≤ jO)); have n5_ := zA.mk ((by rw [hg]; exact Nat.ne_of_lt (yG (bG yH.out)) : jP ≠ jO)); have n6_ := zA.mk ((by rw [hg]; exact Nat.ne_of_gt (yG (bG yH.out)) : jO ≠ jP)); clear yH; clear HB; have yH := n0_; have HB := n1_; have zBX := n2_; have zQX := n3_; have zGD := n4_; have zJW := geI zGD; have jY := n5_; have jX := n6_; clear n0_ n1_ n2_ n3_ n4_ n5_ n6_; clear hb hbox hg; have hnb23 := jX.out; have hnc23 := jY.out; have zSV : w22.cell? ⟨jO, 0, none⟩ = some (.int .i64 a1) := (zC zBX.out 0).trans rfl; have zSM := zB zBX.out 0; have zCZ : w22.cell? ⟨jP, 0, none⟩ = some (.slice A0 l0.length c0) := (zC yH.out 0).trans rfl; have zCW := zB yH.out 0; have p129 : 0 ≤ (0 : Int) := (by omega); have q129 : 0 < (l0.length : Int) := of_decide_eq_true (by first | (with_reducible assumption) | assumption); obtain ⟨ad129, e129, qM⟩ := Kd.qC HR0.out 0 p129 q129; cases e129; have qi129 : (0 < l0.length) = True := eq_true (by omega); (try rw [show ((0 : Int)).toNat = 0 from rfl] at qM); (try rw [Addr.add_zero'] at qM); replace qM := (HB.out.cell (World.block_lt_of_cell? w _ qM)).trans qM; replace p129 := eq_true p129; replace q129 := eq_true q129; have p130 : 0 ≤ ((ji10) : Int) := of_decide_eq_true (by first | (with_reducible assumption) | assumption); have q130 : (ji10) < (l0.length : Int) := of_decide_eq_true (by first | (with_reducible assumption) | assumption); obtain ⟨ad130, e130, uL⟩ := Kd.qC HR0.out (ji10) p130 q130; obtain rfl : ad129 = ad130 := (by injection e130); replace uL := (HB.out.cell (World.block_lt_of_cell? w _ uL)).trans uL; replace p130 := eq_true p130; replace q130 := eq_true q130) | (go_at_call 32; (with_reducible refine (vF.calls k (l0.length : Int)  jP (some ad129) c0 l0 jO a1 t131 _ ?side1 ?side2 ?side3 ?side4 A19.out).mono ?_); (case side1 => repeat (first | exact (Kd.zX HR0.out HB.out) | (with_reducible refine Kd.zP ?_ _) | (with_reducible refine Kd.zO ?_ _) | (with_reducible refine Kd.zY ?_))); (case side2 => exact HC0.out); (case side3 => (with_reducible repeat first | apply bN | apply bD | apply bA); exact yH.out); (case side4 => (with_reducible repeat first | apply bN | apply bD | apply bA); exact zBX.out); rintro e w' ⟨rfl, ⟨nd, rfl⟩⟩; (try first | exact ⟨rfl, _, World.drewN_drewN _ _ _⟩ | exact ⟨rfl, _, Eq.trans (World.drewN_drewN _ _ _) (congrArg (World.drewN _) (Nat.add_assoc _ _ _))⟩))))
      go_ret2
      exact ⟨by first | rfl | (simp [zI, zH] <;> rfl) | (simp only [← hji10, ← hji20]; first | rfl | (simp [zI, zH] <;> rfl)) | (simp [*, zI, zH] <;> rfl), eG HB.out⟩
    · rw [if_neg c12] at H; exact absurd H (by simp)
   · rw [if_neg c11] at H; exact absurd H (by simp)
 · rw [if_neg c3] at H; exact absurd H (by simp)
end Go.Proofs.YtmdfnambaedllaaDoor.Pr
