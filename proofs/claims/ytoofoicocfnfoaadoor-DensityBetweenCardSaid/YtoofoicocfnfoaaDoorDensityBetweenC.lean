/-
The law DensityBetween returns true for every input that can be read as data, and leaves its arguments as they were: the row, and the card that ties the listed variables to the program's text.
No condition of its own beyond those that the given row prints.
-/
import Derived.Test.YtoofoicocfnfoaaDoorCards
import Derived.Test.YtoofoicocfnfoaaDoorTie
import Derived.ProofKit
import Derived.OpenShut
import Derived.ShutString
import Derived.ChangeOld
import Derived.SizedLaws
import Derived.LaidMore
import Derived.Handed
import Derived.SevenTiedAt
import Derived.LaidSub
import Derived.LaidOnce
import Derived.Stop.Joined
import Derived.Stop.LaidErr
import Derived.Test.YtoofoicocfnfoaaDoorDensityBetweenB
set_option linter.unusedVariables false
set_option linter.unusedSimpArgs false
namespace Go.Proofs.YtoofoicocfnfoaaDoor.Opn
open Go Go.RowKit Go.Proofs.YtoofoicocfnfoaaDoorW.PrintWords Go.Proofs.YtoofoicocfnfoaaDoor.O Go.Proofs.YtoofoicocfnfoaaDoor.Pr
theorem opens3 : Opens Tryd.prog 3 (Kd.int .i64) (fun x => (Lit.int .i64 x).wf = true) := opens_int Tryd.underlying3 (by kernel_rfl)
def ok30 (x : S30) : Prop := (Lit.int .i64 x.f0).wf = true ∧ (Lit.int .i64 x.f1).wf = true
theorem opens30 : Opens Tryd.prog 30 k30 ok30 :=
  ⟨by kernel_rfl, fun H enc w base sp held fuel cs x h => by
    obtain ⟨xs, n, _, _, hl, hx, hf⟩ := DataW.trod_struct Tryd.underlying30 h
    have hc_ : Tryd.prog.cellsOf 30 = 2 := by kernel_rfl
    rw [hc_] at hl
    obtain ⟨c0, c1, rfl⟩ : ∃ c0 c1, cs = [c0, c1] := by
      clear h hf hx
      rcases cs with _ | ⟨c0, _ | ⟨c1, _ | ⟨_, _⟩⟩⟩
      all_goals first | exact ⟨_, _, rfl⟩ | (simp at hl)
    obtain ⟨y0, hy0⟩ : ∃ y, xs[0]? = some y := ⟨xs[0]'(by rw [hx]; decide), List.getElem?_eq_getElem _⟩
    have e0 : DataW.trod enc Tryd.prog w base sp held n 3 ((List.drop 0 [c0, c1]).take (Tryd.prog.cellsOf 3)) = xs[0]? := hf 0 _ rfl
    rw [hy0, show Tryd.prog.cellsOf 3 = 1 from by kernel_rfl] at e0
    obtain ⟨v0, K0, o0⟩ := opens3.2 H enc w base sp held n _ _ e0
    replace K0 : (Kd.int .i64).K w v0 [c0] := K0
    obtain ⟨y1, hy1⟩ : ∃ y, xs[1]? = some y := ⟨xs[1]'(by rw [hx]; decide), List.getElem?_eq_getElem _⟩
    have e1 : DataW.trod enc Tryd.prog w base sp held n 3 ((List.drop 1 [c0, c1]).take (Tryd.prog.cellsOf 3)) = xs[1]? := hf 1 _ rfl
    rw [hy1, show Tryd.prog.cellsOf 3 = 1 from by kernel_rfl] at e1
    obtain ⟨v1, K1, o1⟩ := opens3.2 H enc w base sp held n _ _ e1
    replace K1 : (Kd.int .i64).K w v1 [c1] := K1
    obtain rfl : c0 = _ := List.singleton_inj.1 K0
    obtain rfl : c1 = _ := List.singleton_inj.1 K1
    refine ⟨⟨v0, v1⟩, ?_, o0, o1⟩
    exact k30_mk w ⟨v0, v1⟩ ⟩
theorem opens22 : Opens Tryd.prog 22 (Kd.slice 30 k30) (fun x => (x.length ≤ maxLen ∧ ∀ x0_, x0_ ∈ x → ok30 x0_)) := opens_slice (P := Tryd.prog) (t := 22) (e := 30) Tryd.underlying22 (by kernel_rfl) opens30
end Go.Proofs.YtoofoicocfnfoaaDoor.Opn
namespace Go.Proofs.YtoofoicocfnfoaaDoor.Pure
open Go Go.RowKit Go.Proofs.YtoofoicocfnfoaaDoor.Pr Go.Proofs.YtoofoicocfnfoaaDoor.Opn
def densityBetweenPure : Prop := ∀ (l0 : (List S30)) (a1 : Int) (a2 : Int), (l0.length ≤ maxLen ∧ ∀ x0_, x0_ ∈ l0 → ok30 x0_) → (Lit.int .i64 a1).wf = true → (Lit.int .i64 a2).wf = true → ∃ k, spilelaw16_DensityBetween.f k l0 a1 a2 = some true
end Go.Proofs.YtoofoicocfnfoaaDoor.Pure
namespace Go.Proofs.YtoofoicocfnfoaaDoor.PL
open Go Go.RowKit Go.Proofs.YtoofoicocfnfoaaDoorW.PrintWords Go.Proofs.YtoofoicocfnfoaaDoorW.PrintLast Go.Proofs.YtoofoicocfnfoaaDoorW.PrintMore
theorem evp {α : Type} {c : Prop} [Decidable c] {g h : Nat → Option α} {r : α} (hc : c) (k : Ev g r) : Ev (fun n => if c then g n else h n) r :=
  Ev.congr (fun n => if_pos hc) k
theorem evn {α : Type} {c : Prop} [Decidable c] {g h : Nat → Option α} {r : α} (hc : ¬ c) (k : Ev h r) : Ev (fun n => if c then g n else h n) r :=
  Ev.congr (fun n => if_neg hc) k
theorem evb {α β : Type} {g : Nat → Option α} {f : Nat → α → Option β} {a : α} {r : β} (h : Ev g a) (k : Ev (fun n => f n a) r) : Ev (fun n => (g n).bind (f n)) r := Ev.bind h k
theorem evr {α : Type} {a r : α} (h : a = r) : Ev (fun _ => some a) r := by subst h; exact Ev.now _
theorem evc {α : Type} {g : Nat → Option α} {r : α} {o : Option α} (hg : ∀ n, g n = o) (h : o = some r) : Ev g r := by
  subst h
  exact Ev.congr hg (Ev.now _)
/-- A loop that counts upwards to n. -/
theorem count_up (a n : Int) (P : Int → Prop) (hend : P n) (hround : ∀ i, a ≤ i → i < n → P (i + 1) → P i) : ∀ i, a ≤ i → i ≤ n → P i := by
  intro i h0 h1
  obtain ⟨d, hd⟩ : ∃ d : Nat, n - i = d := ⟨(n - i).toNat, by omega⟩
  induction d generalizing i with
  | zero =>
    obtain rfl : i = n := by omega
    exact hend
  | succ d ih => exact hround i h0 (by omega) (ih (i + 1) (by omega) (by omega) (by omega))
theorem w64 {x : Int} (h0 : -9223372036854775808 ≤ x) (h1 : x ≤ 9223372036854775807) : wrap64 x = x := by
  unfold wrap64
  omega
theorem w64_succ {i n : Int} (h0 : 0 ≤ i) (h : i < n) (hn : n ≤ 9223372036854775807) : wrap64 (i + 1) = i + 1 := w64 (by omega) (by omega)
theorem w64_pred {i n : Int} (h0 : 0 ≤ i) (h : i ≤ n) (hn : n ≤ 9223372036854775807) : wrap64 (i - 1) = i - 1 := w64 (by omega) (by omega)
theorem len_le {α : Type} {l : List α} (h : l.length ≤ maxLen) : (l.length : Int) ≤ 9223372036854775807 := by
  have : l.length ≤ 9223372036854775807 := by simpa [maxLen] using h
  omega
/-- A test that comes to true where P holds, and else to false. -/
def EvB (g : Nat → Option Bool) (P : Prop) : Prop := (P → Ev g true) ∧ (¬ P → Ev g false)
theorem EvB.get {g : Nat → Option Bool} {P : Prop} (h : EvB g P) : ∃ b, Ev g b ∧ (b = true ↔ P) := by
  by_cases hp : P
  · exact ⟨true, h.1 hp, by simp [hp]⟩
  · exact ⟨false, h.2 hp, by simp [hp]⟩
theorem EvB.map {g : Nat → Option Bool} {f : Nat → Bool → Option Bool} {P Q : Prop} (h : EvB g P) (ht : P → EvB (fun n => f n true) Q) (hf : ¬ P → EvB (fun n => f n false) Q) : EvB (fun n => (g n).bind (f n)) Q := by
  by_cases hp : P
  · exact ⟨fun q => Ev.bind (h.1 hp) ((ht hp).1 q), fun q => Ev.bind (h.1 hp) ((ht hp).2 q)⟩
  · exact ⟨fun q => Ev.bind (h.2 hp) ((hf hp).1 q), fun q => Ev.bind (h.2 hp) ((hf hp).2 q)⟩
theorem index_ev (n : Int) (Q : Int → Prop) (L : Int → Nat → Option Int) (hend : Ev (L n) (-1)) (hyes : ∀ i, 0 ≤ i → i < n → Q i → Ev (L i) i)
    (hno : ∀ i, 0 ≤ i → i < n → ¬ Q i → ∀ r, Ev (L (i + 1)) r → Ev (L i) r) : ∀ i, 0 ≤ i → i ≤ n →
    ∃ r, Ev (L i) r ∧ ((0 ≤ r ∧ i ≤ r ∧ r < n ∧ Q r ∧ ∀ j, i ≤ j → j < r → ¬ Q j) ∨ (r = -1 ∧ ∀ j, i ≤ j → j < n → ¬ Q j)) := by
  refine count_up 0 n _ ⟨-1, hend, .inr ⟨rfl, fun j h1 h2 => absurd h2 (by omega)⟩⟩ ?_
  intro i h0 h1 ih
  by_cases hq : Q i
  · exact ⟨i, hyes i h0 h1 hq, .inl ⟨h0, by omega, h1, hq, fun j h2 h3 => absurd h3 (by omega)⟩⟩
  · obtain ⟨r, hr, h⟩ := ih
    refine ⟨r, hno i h0 h1 hq _ hr, ?_⟩
    have ext : ∀ b, (∀ j, i + 1 ≤ j → j < b → ¬ Q j) → ∀ j, i ≤ j → j < b → ¬ Q j := fun b h2 j hj hb => by
      by_cases e : j = i
      · subst e; exact hq
      · exact h2 j (by omega) hb
    rcases h with ⟨a, b, c, d, e⟩ | ⟨a, b⟩
    · exact .inl ⟨a, by omega, c, d, ext r e⟩
    · exact .inr ⟨a, ext n b⟩
theorem u64w {x : Int} (h0 : 0 ≤ x) (h1 : x ≤ 9223372036854775807) : IntKind.u64.wrap x = x := by
  unfold IntKind.wrap
  simp [IntKind.signed, IntKind.bits]
  omega
theorem half {i j : Int} (h0 : 0 ≤ i) (h1 : i < j) (h2 : j ≤ 4611686018427387904) : wrap64 ((IntKind.u64.wrap (wrap64 (i + j))) / 2) = (i + j) / 2 := by
  rw [w64 (x := i + j) (by omega) (by omega), u64w (by omega) (by omega), w64 (by omega) (by omega)]
/-- A search by halves. -/
theorem search_ev (n : Int) (Q : Int → Prop) (L : Int → Int → Nat → Option Int)
    (hend : ∀ i, 0 ≤ i → i ≤ n → Ev (L i i) i) (hyes : ∀ i j, 0 ≤ i → i < j → j ≤ n → Q ((i + j) / 2) → ∀ r, Ev (L i ((i + j) / 2)) r → Ev (L i j) r)
    (hno : ∀ i j, 0 ≤ i → i < j → j ≤ n → ¬ Q ((i + j) / 2) → ∀ r, Ev (L ((i + j) / 2 + 1) j) r → Ev (L i j) r)
    (mono : ∀ a b, 0 ≤ a → a ≤ b → b < n → Q a → Q b) (hn : 0 ≤ n) :
    ∃ r, Ev (L 0 n) r ∧ 0 ≤ r ∧ r ≤ n ∧ (∀ a, 0 ≤ a → a < r → ¬ Q a) ∧ (∀ a, r ≤ a → a < n → Q a) := by
  have go : ∀ (d : Nat) (i j : Int), 0 ≤ i → i ≤ j → j ≤ n → j - i ≤ d → (∀ a, 0 ≤ a → a < i → ¬ Q a) → (∀ a, j ≤ a → a < n → Q a) →
      ∃ r, Ev (L i j) r ∧ 0 ≤ r ∧ r ≤ n ∧ (∀ a, 0 ≤ a → a < r → ¬ Q a) ∧ (∀ a, r ≤ a → a < n → Q a) := by
    intro d
    induction d with
    | zero =>
      intro i j h0 h1 h2 h3 hl hr
      obtain rfl : i = j := by omega
      exact ⟨i, hend i h0 h2, h0, h2, hl, hr⟩
    | succ d ih =>
      intro i j h0 h1 h2 h3 hl hr
      by_cases e : i = j
      · subst e
        exact ⟨i, hend i h0 h2, h0, h2, hl, hr⟩
      · by_cases q : Q ((i + j) / 2)
        · obtain ⟨r, hr2, h⟩ := ih i ((i + j) / 2) h0 (by omega) (by omega) (by omega) hl (fun a ha hb => mono ((i + j) / 2) a (by omega) ha hb q)
          exact ⟨r, hyes i j h0 (by omega) h2 q r hr2, h⟩
        · obtain ⟨r, hr2, h⟩ := ih ((i + j) / 2 + 1) j (by omega) (by omega) h2 (by omega) (fun a ha hb qa => q (mono a ((i + j) / 2) ha (by omega) (by omega) qa)) hr
          exact ⟨r, hno i j h0 (by omega) h2 q r hr2, h⟩
  exact go n.toNat 0 n (by omega) hn (by omega) (by omega) (fun a h0 h1 => absurd h1 (by omega)) (fun a h0 h1 => absurd h1 (by omega))
end Go.Proofs.YtoofoicocfnfoaaDoor.PL
namespace Go.Proofs.YtoofoicocfnfoaaDoor.PL
open Go Go.RowKit Go.Proofs.YtoofoicocfnfoaaDoorW.PrintWords Go.Proofs.YtoofoicocfnfoaaDoorW.PrintLast Go.Proofs.YtoofoicocfnfoaaDoorW.PrintMore Go.Proofs.YtoofoicocfnfoaaDoor.Pr Go.Proofs.YtoofoicocfnfoaaDoor.Opn
/-- A row's fault. -/
def flt (l : List S30) (i : Int) : Int :=
  if (rd_T30 l i).f0 < 0 ∨ (rd_T30 l i).f0 > 10000 ∨ (rd_T30 l i).f1 < 50000 ∨ (rd_T30 l i).f1 > 120000 then 2
  else if i > 0 ∧ (rd_T30 l i).f0 ≤ (rd_T30 l (i - 1)).f0 then 5
  else if i > 0 ∧ (rd_T30 l i).f1 > (rd_T30 l (i - 1)).f1 then 18 else 0
theorem flt_cases (l : List S30) (i : Int) : (((rd_T30 l i).f0 < 0 ∨ (rd_T30 l i).f0 > 10000 ∨ (rd_T30 l i).f1 < 50000 ∨ (rd_T30 l i).f1 > 120000) ∧ flt l i = 2) ∨
    ((0 ≤ (rd_T30 l i).f0 ∧ (rd_T30 l i).f0 ≤ 10000 ∧ 50000 ≤ (rd_T30 l i).f1 ∧ (rd_T30 l i).f1 ≤ 120000) ∧
      ((i > 0 ∧ (rd_T30 l i).f0 ≤ (rd_T30 l (i - 1)).f0 ∧ flt l i = 5) ∨ (i > 0 ∧ (rd_T30 l (i - 1)).f0 < (rd_T30 l i).f0 ∧ (rd_T30 l i).f1 > (rd_T30 l (i - 1)).f1 ∧ flt l i = 18) ∨
       (flt l i = 0 ∧ (i > 0 → (rd_T30 l (i - 1)).f0 < (rd_T30 l i).f0 ∧ (rd_T30 l i).f1 ≤ (rd_T30 l (i - 1)).f1)))) := by
  unfold flt
  split
  · exact .inl ⟨by assumption, rfl⟩
  · split
    · exact .inr ⟨by omega, .inl ⟨by omega, by omega, rfl⟩⟩
    · split
      · exact .inr ⟨by omega, .inr (.inl ⟨by omega, by omega, by omega, rfl⟩)⟩
      · exact .inr ⟨by omega, .inr (.inr ⟨rfl, by omega⟩)⟩
theorem fault_ev (l : List S30) (hl : (l.length : Int) ≤ 9223372036854775807) (i : Int) (h0 : 0 ≤ i) (h1 : i < (l.length : Int)) : Ev (fun k => density_fault.f k l i) (flt l i) := by
  have hp := w64_pred h0 (Int.le_of_lt h1) hl
  unfold density_fault.f
  rcases flt_cases l i with ⟨a, e⟩ | ⟨a, ⟨b, c, e⟩ | ⟨b, c, d, e⟩ | ⟨e, b⟩⟩ <;> rw [e]
  · by_cases c1 : (rd_T30 l i).f0 < 0
    · (repeat' first | assumption | exact Ev.now _ | exact evr rfl | refine evp (by first | omega | exact rfl | assumption | decide | (simp only [decide_eq_true_eq]; omega) | (simp; done) | (simp; omega)) ?_ | refine evn (by first | omega | assumption | decide | (simp only [decide_eq_true_eq]; omega) | (simp; done) | (simp; omega)) ?_ | refine Ev.step (fun k => density_fault.j0.eq_2 ..) ?_)
    · by_cases c2 : (rd_T30 l i).f0 > 10000
      · (repeat' first | assumption | exact Ev.now _ | exact evr rfl | refine evp (by first | omega | exact rfl | assumption | decide | (simp only [decide_eq_true_eq]; omega) | (simp; done) | (simp; omega)) ?_ | refine evn (by first | omega | assumption | decide | (simp only [decide_eq_true_eq]; omega) | (simp; done) | (simp; omega)) ?_ | refine Ev.step (fun k => density_fault.j0.eq_2 ..) ?_)
      · by_cases c3 : (rd_T30 l i).f1 < 50000
        · (repeat' first | assumption | exact Ev.now _ | exact evr rfl | refine evp (by first | omega | exact rfl | assumption | decide | (simp only [decide_eq_true_eq]; omega) | (simp; done) | (simp; omega)) ?_ | refine evn (by first | omega | assumption | decide | (simp only [decide_eq_true_eq]; omega) | (simp; done) | (simp; omega)) ?_ | refine Ev.step (fun k => density_fault.j0.eq_2 ..) ?_)
        · (repeat' first | assumption | exact Ev.now _ | exact evr rfl | refine evp (by first | omega | exact rfl | assumption | decide | (simp only [decide_eq_true_eq]; omega) | (simp; done) | (simp; omega)) ?_ | refine evn (by first | omega | assumption | decide | (simp only [decide_eq_true_eq]; omega) | (simp; done) | (simp; omega)) ?_ | refine Ev.step (fun k => density_fault.j0.eq_2 ..) ?_)
  · refine evp h0 (evp h1 (evn (by omega) (evn (by omega) (evn (by omega) (Ev.step (fun k => density_fault.j0.eq_2 ..) ?_)))))
    rw [hp]
    (repeat' first | assumption | exact Ev.now _ | exact evr rfl | refine evp (by first | omega | exact rfl | assumption | decide | (simp only [decide_eq_true_eq]; omega) | (simp; done) | (simp; omega)) ?_ | refine evn (by first | omega | assumption | decide | (simp only [decide_eq_true_eq]; omega) | (simp; done) | (simp; omega)) ?_ | refine Ev.step (fun k => density_fault.j1.eq_2 ..) ?_)
  · refine evp h0 (evp h1 (evn (by omega) (evn (by omega) (evn (by omega) (Ev.step (fun k => density_fault.j0.eq_2 ..) ?_)))))
    rw [hp]
    refine evn (by simp; omega) (evp b (evp (by omega) (evp (by omega) (Ev.step (fun k => density_fault.j1.eq_2 ..) ?_))))
    rw [hp]
    (repeat' first | assumption | exact Ev.now _ | exact evr rfl | refine evp (by first | omega | exact rfl | assumption | decide | (simp only [decide_eq_true_eq]; omega) | (simp; done) | (simp; omega)) ?_ | refine evn (by first | omega | assumption | decide | (simp only [decide_eq_true_eq]; omega) | (simp; done) | (simp; omega)) ?_ | refine Ev.step (fun k => density_fault.j1.eq_2 ..) ?_)
  · refine evp h0 (evp h1 (evn (by omega) (evn (by omega) (evn (by omega) (Ev.step (fun k => density_fault.j0.eq_2 ..) ?_)))))
    rw [hp]
    by_cases c : i > 0
    · obtain ⟨b1, b2⟩ := b c
      refine evn (by simp; omega) (evp c (evp (by omega) (evp (by omega) (Ev.step (fun k => density_fault.j1.eq_2 ..) ?_))))
      rw [hp]
      (repeat' first | assumption | exact Ev.now _ | exact evr rfl | refine evp (by first | omega | exact rfl | assumption | decide | (simp only [decide_eq_true_eq]; omega) | (simp; done) | (simp; omega)) ?_ | refine evn (by first | omega | assumption | decide | (simp only [decide_eq_true_eq]; omega) | (simp; done) | (simp; omega)) ?_ | refine Ev.step (fun k => density_fault.j1.eq_2 ..) ?_)
    · (repeat' first | assumption | exact Ev.now _ | exact evr rfl | refine evp (by first | omega | exact rfl | assumption | decide | (simp only [decide_eq_true_eq]; omega) | (simp; done) | (simp; omega)) ?_ | refine evn (by first | omega | assumption | decide | (simp only [decide_eq_true_eq]; omega) | (simp; done) | (simp; omega)) ?_ | refine Ev.step (fun k => density_fault.j1.eq_2 ..) ?_)
theorem ref_one (l : List S30) (hl : (l.length : Int) ≤ 9223372036854775807) (i : Int) (h0 : 0 ≤ i) (h1 : i < (l.length : Int)) :
    (flt l i ≠ 0 → Ev (fun k => spileref16_Check.l0 k l i) (i, flt l i)) ∧ (flt l i = 0 → ∀ r, Ev (fun k => spileref16_Check.l0 k l (i + 1)) r → Ev (fun k => spileref16_Check.l0 k l i) r) := by
  have hp := w64_pred h0 (Int.le_of_lt h1) hl
  have hs := w64_succ h0 h1 hl
  rcases flt_cases l i with ⟨a, e⟩ | ⟨a, ⟨b, c, e⟩ | ⟨b, c, d, e⟩ | ⟨e, b⟩⟩ <;> rw [e]
  · refine ⟨fun _ => ?_, fun h => absurd h (by decide)⟩
    by_cases c1 : (rd_T30 l i).f0 < 0
    · refine Ev.step (fun k => spileref16_Check.l0.eq_2 ..) ?_
      (repeat' first | assumption | exact Ev.now _ | exact evr rfl | refine evp (by first | omega | exact rfl | assumption | decide | (simp only [decide_eq_true_eq]; omega) | (simp; done) | (simp; omega)) ?_ | refine evn (by first | omega | assumption | decide | (simp only [decide_eq_true_eq]; omega) | (simp; done) | (simp; omega)) ?_ | refine Ev.step (fun k => spileref16_Check.j1.eq_2 ..) ?_)
    · by_cases c2 : (rd_T30 l i).f0 > 10000
      · refine Ev.step (fun k => spileref16_Check.l0.eq_2 ..) ?_
        (repeat' first | assumption | exact Ev.now _ | exact evr rfl | refine evp (by first | omega | exact rfl | assumption | decide | (simp only [decide_eq_true_eq]; omega) | (simp; done) | (simp; omega)) ?_ | refine evn (by first | omega | assumption | decide | (simp only [decide_eq_true_eq]; omega) | (simp; done) | (simp; omega)) ?_ | refine Ev.step (fun k => spileref16_Check.j1.eq_2 ..) ?_)
      · by_cases c3 : (rd_T30 l i).f1 < 50000
        · refine Ev.step (fun k => spileref16_Check.l0.eq_2 ..) ?_
          (repeat' first | assumption | exact Ev.now _ | exact evr rfl | refine evp (by first | omega | exact rfl | assumption | decide | (simp only [decide_eq_true_eq]; omega) | (simp; done) | (simp; omega)) ?_ | refine evn (by first | omega | assumption | decide | (simp only [decide_eq_true_eq]; omega) | (simp; done) | (simp; omega)) ?_ | refine Ev.step (fun k => spileref16_Check.j1.eq_2 ..) ?_)
        · refine Ev.step (fun k => spileref16_Check.l0.eq_2 ..) ?_
          (repeat' first | assumption | exact Ev.now _ | exact evr rfl | refine evp (by first | omega | exact rfl | assumption | decide | (simp only [decide_eq_true_eq]; omega) | (simp; done) | (simp; omega)) ?_ | refine evn (by first | omega | assumption | decide | (simp only [decide_eq_true_eq]; omega) | (simp; done) | (simp; omega)) ?_ | refine Ev.step (fun k => spileref16_Check.j1.eq_2 ..) ?_)
  · refine ⟨fun _ => ?_, fun h => absurd h (by decide)⟩
    refine Ev.step (fun k => spileref16_Check.l0.eq_2 ..) (evp h1 (evp h0 (evn (by omega) (evn (by omega) (evn (by omega) (Ev.step (fun k => spileref16_Check.j1.eq_2 ..) ?_))))))
    rw [hp]
    (repeat' first | assumption | exact Ev.now _ | exact evr rfl | refine evp (by first | omega | exact rfl | assumption | decide | (simp only [decide_eq_true_eq]; omega) | (simp; done) | (simp; omega)) ?_ | refine evn (by first | omega | assumption | decide | (simp only [decide_eq_true_eq]; omega) | (simp; done) | (simp; omega)) ?_ | refine Ev.step (fun k => spileref16_Check.j2.eq_2 ..) ?_)
  · refine ⟨fun _ => ?_, fun h => absurd h (by decide)⟩
    refine Ev.step (fun k => spileref16_Check.l0.eq_2 ..) (evp h1 (evp h0 (evn (by omega) (evn (by omega) (evn (by omega) (Ev.step (fun k => spileref16_Check.j1.eq_2 ..) ?_))))))
    rw [hp]
    refine evn (by simp; omega) (evp b (evp h0 (evp h1 (evp (by omega) (evp (by omega) (Ev.step (fun k => spileref16_Check.j2.eq_2 ..) ?_))))))
    rw [hp]
    (repeat' first | assumption | exact Ev.now _ | exact evr rfl | refine evp (by first | omega | exact rfl | assumption | decide | (simp only [decide_eq_true_eq]; omega) | (simp; done) | (simp; omega)) ?_ | refine evn (by first | omega | assumption | decide | (simp only [decide_eq_true_eq]; omega) | (simp; done) | (simp; omega)) ?_)
  · refine ⟨fun h => absurd rfl h, fun _ r hr => ?_⟩
    refine Ev.step (fun k => spileref16_Check.l0.eq_2 ..) (evp h1 (evp h0 (evn (by omega) (evn (by omega) (evn (by omega) (Ev.step (fun k => spileref16_Check.j1.eq_2 ..) ?_))))))
    rw [hp]
    by_cases c : i > 0
    · obtain ⟨b1, b2⟩ := b c
      refine evn (by simp; omega) (evp c (evp h0 (evp h1 (evp (by omega) (evp (by omega) (Ev.step (fun k => spileref16_Check.j2.eq_2 ..) ?_))))))
      rw [hp, hs]
      (repeat' first | assumption | exact Ev.now _ | exact evr rfl | refine evp (by first | omega | exact rfl | assumption | decide | (simp only [decide_eq_true_eq]; omega) | (simp; done) | (simp; omega)) ?_ | refine evn (by first | omega | assumption | decide | (simp only [decide_eq_true_eq]; omega) | (simp; done) | (simp; omega)) ?_)
    · refine evn (by simp; omega) (evn c (Ev.step (fun k => spileref16_Check.j2.eq_2 ..) ?_))
      rw [hs]
      (repeat' first | assumption | exact Ev.now _ | exact evr rfl | refine evp (by first | omega | exact rfl | assumption | decide | (simp only [decide_eq_true_eq]; omega) | (simp; done) | (simp; omega)) ?_ | refine evn (by first | omega | assumption | decide | (simp only [decide_eq_true_eq]; omega) | (simp; done) | (simp; omega)) ?_)
/-- What stands at a check's end. -/
def tl (l : List S30) : Int × Int := if (rd_T30 l 0).f0 = 0 then (if (rd_T30 l ((l.length : Int) - 1)).f0 = 10000 then (-1, 0) else ((l.length : Int) - 1, 10)) else (0, 10)
theorem tl_cases (l : List S30) : ((rd_T30 l 0).f0 = 0 ∧ (rd_T30 l ((l.length : Int) - 1)).f0 = 10000 ∧ tl l = (-1, 0)) ∨ ((rd_T30 l 0).f0 = 0 ∧ ¬ (rd_T30 l ((l.length : Int) - 1)).f0 = 10000 ∧ tl l = ((l.length : Int) - 1, 10)) ∨ (¬ (rd_T30 l 0).f0 = 0 ∧ tl l = (0, 10)) := by
  unfold tl
  split
  · split
    · exact .inl ⟨by assumption, by assumption, rfl⟩
    · exact .inr (.inl ⟨by assumption, by assumption, rfl⟩)
  · exact .inr (.inr ⟨by assumption, rfl⟩)
def Spec (l : List S30) (i : Int) (r : Int × Int) : Prop :=
  (∃ j, i ≤ j ∧ j < (l.length : Int) ∧ flt l j ≠ 0 ∧ r = (j, flt l j) ∧ ∀ m, i ≤ m → m < j → flt l m = 0) ∨ ((∀ m, i ≤ m → m < (l.length : Int) → flt l m = 0) ∧ r = tl l)
theorem loops (l : List S30) (h2 : 2 ≤ (l.length : Int)) (hl : (l.length : Int) ≤ 9223372036854775807) : ∀ i, 0 ≤ i → i ≤ (l.length : Int) →
    ∃ r, Ev (fun k => density_Check.l0 k l (l.length : Int) i) r ∧ Ev (fun k => spileref16_Check.l0 k l i) r ∧ Spec l i r := by
  have hp := w64_pred (i := (l.length : Int)) (by omega) (Int.le_refl _) hl
  refine count_up 0 (l.length : Int) _ ?_ ?_
  · refine ⟨tl l, ?_, ?_, .inr ⟨fun m a b => absurd b (by omega), rfl⟩⟩
    · refine Ev.step (fun k => density_Check.l0.eq_2 ..) ?_
      rw [hp]
      rcases tl_cases l with ⟨a, b, e⟩ | ⟨a, b, e⟩ | ⟨a, e⟩ <;> rw [e]
      · (repeat' first | assumption | exact Ev.now _ | exact evr rfl | refine evp (by first | omega | exact rfl | assumption | decide | (simp only [decide_eq_true_eq]; omega) | (simp; done) | (simp; omega)) ?_ | refine evn (by first | omega | assumption | decide | (simp only [decide_eq_true_eq]; omega) | (simp; done) | (simp; omega)) ?_)
      · (repeat' first | assumption | exact Ev.now _ | exact evr rfl | refine evp (by first | omega | exact rfl | assumption | decide | (simp only [decide_eq_true_eq]; omega) | (simp; done) | (simp; omega)) ?_ | refine evn (by first | omega | assumption | decide | (simp only [decide_eq_true_eq]; omega) | (simp; done) | (simp; omega)) ?_)
      · (repeat' first | assumption | exact Ev.now _ | exact evr rfl | refine evp (by first | omega | exact rfl | assumption | decide | (simp only [decide_eq_true_eq]; omega) | (simp; done) | (simp; omega)) ?_ | refine evn (by first | omega | assumption | decide | (simp only [decide_eq_true_eq]; omega) | (simp; done) | (simp; omega)) ?_)
    · refine Ev.step (fun k => spileref16_Check.l0.eq_2 ..) ?_
      rw [hp]
      rcases tl_cases l with ⟨a, b, e⟩ | ⟨a, b, e⟩ | ⟨a, e⟩ <;> rw [e]
      · (repeat' first | assumption | exact Ev.now _ | exact evr rfl | refine evp (by first | omega | exact rfl | assumption | decide | (simp only [decide_eq_true_eq]; omega) | (simp; done) | (simp; omega)) ?_ | refine evn (by first | omega | assumption | decide | (simp only [decide_eq_true_eq]; omega) | (simp; done) | (simp; omega)) ?_)
      · (repeat' first | assumption | exact Ev.now _ | exact evr rfl | refine evp (by first | omega | exact rfl | assumption | decide | (simp only [decide_eq_true_eq]; omega) | (simp; done) | (simp; omega)) ?_ | refine evn (by first | omega | assumption | decide | (simp only [decide_eq_true_eq]; omega) | (simp; done) | (simp; omega)) ?_)
      · (repeat' first | assumption | exact Ev.now _ | exact evr rfl | refine evp (by first | omega | exact rfl | assumption | decide | (simp only [decide_eq_true_eq]; omega) | (simp; done) | (simp; omega)) ?_ | refine evn (by first | omega | assumption | decide | (simp only [decide_eq_true_eq]; omega) | (simp; done) | (simp; omega)) ?_)
  · intro i h0 h1 ih
    have hs := w64_succ h0 h1 hl
    have hf := fault_ev l hl i h0 h1
    have hr := ref_one l hl i h0 h1
    by_cases e : flt l i = 0
    · obtain ⟨r, r1, r2, r3⟩ := ih
      refine ⟨r, ?_, hr.2 e r r2, ?_⟩
      · refine Ev.step (fun k => density_Check.l0.eq_2 ..) (evp h1 (evb hf (evp e ?_)))
        rw [hs]
        exact r1
      · rcases r3 with ⟨j, a, b, c, d, f⟩ | ⟨a, b⟩
        · refine .inl ⟨j, by omega, b, c, d, fun m m1 m2 => ?_⟩
          by_cases q : m = i
          · subst q; exact e
          · exact f m (by omega) m2
        · refine .inr ⟨fun m m1 m2 => ?_, b⟩
          by_cases q : m = i
          · subst q; exact e
          · exact a m (by omega) m2
    · exact ⟨(i, flt l i), Ev.step (fun k => density_Check.l0.eq_2 ..) (evp h1 (evb hf (evn e (Ev.now _)))), hr.1 e, .inl ⟨i, Int.le_refl _, h1, e, rfl, fun m m1 m2 => absurd m2 (by omega)⟩⟩
/-- A table without fault. -/
def Good (l : List S30) : Prop := 2 ≤ (l.length : Int) ∧ (l.length : Int) ≤ 128 ∧ (∀ m, 0 ≤ m → m < (l.length : Int) → flt l m = 0) ∧ (rd_T30 l 0).f0 = 0 ∧ (rd_T30 l ((l.length : Int) - 1)).f0 = 10000
theorem tl_ok {l : List S30} : (tl l).2 = 0 ↔ ((rd_T30 l 0).f0 = 0 ∧ (rd_T30 l ((l.length : Int) - 1)).f0 = 10000) := by
  rcases tl_cases l with ⟨a, b, e⟩ | ⟨a, b, e⟩ | ⟨a, e⟩ <;> rw [e]
  · exact ⟨fun _ => ⟨a, b⟩, fun _ => rfl⟩
  · exact ⟨fun h => absurd (show (10 : Int) = 0 from h) (by decide), fun h => absurd h.2 b⟩
  · exact ⟨fun h => absurd h (by decide), fun h => absurd h.1 a⟩
theorem check_both (l : List S30) (hl : (l.length : Int) ≤ 9223372036854775807) : ∃ r, Ev (fun k => density_Check.f k l) r ∧ Ev (fun k => spileref16_Check.f k l) r ∧ (r.2 = 0 ↔ Good l) ∧ (2 ≤ (l.length : Int) → (l.length : Int) ≤ 128 → Spec l 0 r) := by
  unfold density_Check.f spileref16_Check.f
  by_cases c1 : (l.length : Int) > 128
  · exact ⟨(-1, 8), by (repeat' first | assumption | exact Ev.now _ | exact evr rfl | refine evp (by first | omega | exact rfl | assumption | decide | (simp only [decide_eq_true_eq]; omega) | (simp; done) | (simp; omega)) ?_ | refine evn (by first | omega | assumption | decide | (simp only [decide_eq_true_eq]; omega) | (simp; done) | (simp; omega)) ?_), by (repeat' first | assumption | exact Ev.now _ | exact evr rfl | refine evp (by first | omega | exact rfl | assumption | decide | (simp only [decide_eq_true_eq]; omega) | (simp; done) | (simp; omega)) ?_ | refine evn (by first | omega | assumption | decide | (simp only [decide_eq_true_eq]; omega) | (simp; done) | (simp; omega)) ?_), ⟨fun h => absurd h (by decide), fun h => absurd h.2.1 (by omega)⟩, fun _ h => absurd h (by omega)⟩
  · by_cases c2 : (l.length : Int) < 2
    · exact ⟨(-1, 9), by (repeat' first | assumption | exact Ev.now _ | exact evr rfl | refine evp (by first | omega | exact rfl | assumption | decide | (simp only [decide_eq_true_eq]; omega) | (simp; done) | (simp; omega)) ?_ | refine evn (by first | omega | assumption | decide | (simp only [decide_eq_true_eq]; omega) | (simp; done) | (simp; omega)) ?_), by (repeat' first | assumption | exact Ev.now _ | exact evr rfl | refine evp (by first | omega | exact rfl | assumption | decide | (simp only [decide_eq_true_eq]; omega) | (simp; done) | (simp; omega)) ?_ | refine evn (by first | omega | assumption | decide | (simp only [decide_eq_true_eq]; omega) | (simp; done) | (simp; omega)) ?_), ⟨fun h => absurd h (by decide), fun h => absurd h.1 (by omega)⟩, fun h => absurd h (by omega)⟩
    · obtain ⟨r, r1, r2, r3⟩ := loops l (by omega) hl 0 (by omega) (by omega)
      refine ⟨r, by (repeat' first | assumption | exact Ev.now _ | exact evr rfl | refine evp (by first | omega | exact rfl | assumption | decide | (simp only [decide_eq_true_eq]; omega) | (simp; done) | (simp; omega)) ?_ | refine evn (by first | omega | assumption | decide | (simp only [decide_eq_true_eq]; omega) | (simp; done) | (simp; omega)) ?_), by (repeat' first | assumption | exact Ev.now _ | exact evr rfl | refine evp (by first | omega | exact rfl | assumption | decide | (simp only [decide_eq_true_eq]; omega) | (simp; done) | (simp; omega)) ?_ | refine evn (by first | omega | assumption | decide | (simp only [decide_eq_true_eq]; omega) | (simp; done) | (simp; omega)) ?_), ?_, fun _ _ => r3⟩
      rcases r3 with ⟨j, a, b, c, rfl, f⟩ | ⟨a, rfl⟩
      · exact ⟨fun h => absurd h c, fun h => absurd (h.2.2.1 j a b) c⟩
      · rw [tl_ok]
        exact ⟨fun h => ⟨by omega, by omega, a, h.1, h.2⟩, fun h => ⟨h.2.2.2.1, h.2.2.2.2⟩⟩
theorem right_ev (l : List S30) (hl : (l.length : Int) ≤ 9223372036854775807) : EvB (fun k => density_right.f k l) (Good l) := by
  obtain ⟨r, r1, _, r3, _⟩ := check_both l hl
  exact ⟨fun h => evb r1 (evr (by simpa using r3.2 h)), fun h => evb r1 (evr (by simpa using fun q => h (r3.1 q)))⟩
theorem ref_right_ev (l : List S30) (hl : (l.length : Int) ≤ 9223372036854775807) : EvB (fun k => spileref16_Right.f k l) (Good l) := by
  obtain ⟨r, _, r1, r3, _⟩ := check_both l hl
  exact ⟨fun h => evb r1 (evr (by simpa using r3.2 h)), fun h => evb r1 (evr (by simpa using fun q => h (r3.1 q)))⟩
theorem good_step {l : List S30} (h : Good l) {m : Int} (h0 : 0 < m) (h1 : m < (l.length : Int)) : (rd_T30 l (m - 1)).f0 < (rd_T30 l m).f0 := by
  have e := h.2.2.1 m (by omega) h1
  rcases flt_cases l m with ⟨_, e2⟩ | ⟨_, ⟨_, _, e2⟩ | ⟨_, _, _, e2⟩ | ⟨_, b⟩⟩
  · omega
  · omega
  · omega
  · exact (b h0).1
theorem good_lt {l : List S30} (h : Good l) : ∀ (d : Nat) (a : Int), 0 ≤ a → a + d + 1 < (l.length : Int) → (rd_T30 l a).f0 < (rd_T30 l (a + d + 1)).f0
  | 0, a, h0, h1 => by
    have := good_step h (m := a + (0 : Nat) + 1) (by omega) h1
    rwa [show a + ((0 : Nat) : Int) + 1 - 1 = a from by omega] at this
  | d + 1, a, h0, h1 => by
    have e1 := good_lt h d a h0 (by omega)
    have e2 := good_step h (m := a + (d + 1 : Nat) + 1) (by omega) h1
    rw [show a + ((d + 1 : Nat) : Int) + 1 - 1 = a + d + 1 from by omega] at e2
    omega
theorem good_mono {l : List S30} (h : Good l) {a b : Int} (h0 : 0 ≤ a) (h1 : a < b) (h2 : b < (l.length : Int)) : (rd_T30 l a).f0 < (rd_T30 l b).f0 := by
  have := good_lt h (b - a - 1).toNat a h0 (by omega)
  rwa [show a + ((b - a - 1).toNat : Int) + 1 = b from by omega] at this
/-- The search. -/
theorem find_both (l : List S30) (h : Good l) (s : Int) (s0 : 0 ≤ s) (s1 : s ≤ 10000) : ∃ r, Ev (fun k => sort_Search_34_at_35.f k (l.length : Int) l s) r ∧ Ev (fun k => spileref16_At.f k l s) (r - 1) ∧ 1 ≤ r ∧ r ≤ (l.length : Int) ∧
    (∀ a, 0 ≤ a → a < r → (rd_T30 l a).f0 ≤ s) ∧ (∀ a, r ≤ a → a < (l.length : Int) → s < (rd_T30 l a).f0) := by
  have h2 := h.1
  have h3 := h.2.1
  obtain ⟨r, r1, r2, r3, r4, r5⟩ := search_ev (l.length : Int) (fun a => s < (rd_T30 l a).f0) (fun i j k => sort_Search_34_at_35.l0 k i j l s)
    (fun i _ _ => by
      refine Ev.step (fun k => sort_Search_34_at_35.l0.eq_2 ..) ?_
      (repeat' first | assumption | exact Ev.now _ | exact evr rfl | refine evp (by first | omega | exact rfl | assumption | decide | (simp only [decide_eq_true_eq]; omega) | (simp; done) | (simp; omega)) ?_ | refine evn (by first | omega | assumption | decide | (simp only [decide_eq_true_eq]; omega) | (simp; done) | (simp; omega)) ?_))
    (fun i j a b c q r hr => by
      refine Ev.step (fun k => sort_Search_34_at_35.l0.eq_2 ..) ?_
      rw [half a b (by omega)]
      refine evp b (evb (a := true) (evc (fun _ => rfl) ?_) (evp rfl hr))
      unfold density_Find_1.f
      rw [if_pos (by omega), if_pos (by omega), decide_eq_true q])
    (fun i j a b c q r hr => by
      refine Ev.step (fun k => sort_Search_34_at_35.l0.eq_2 ..) ?_
      rw [half a b (by omega), w64_succ (i := (i + j) / 2) (n := (l.length : Int)) (by omega) (by omega) (by omega)]
      refine evp b (evb (a := false) (evc (fun _ => rfl) ?_) (evn (by decide) hr))
      unfold density_Find_1.f
      rw [if_pos (by omega), if_pos (by omega), decide_eq_false q])
    (fun a b a0 ab bn q => by
      rcases Int.lt_or_eq_of_le ab with e | e
      · have := good_mono h a0 e bn
        omega
      · subst e; exact q) (by omega)
  have hr1 : 1 ≤ r := by
    rcases Int.lt_or_le r 1 with e | e
    · have := r5 0 (by omega) (by omega)
      rw [h.2.2.2.1] at this
      omega
    · exact e
  refine ⟨r, r1, ?_, hr1, r3, fun a a0 a1 => by have := r4 a a0 a1; omega, r5⟩
  have hat : ∀ i, 0 ≤ i → i ≤ (l.length : Int) → ∀ at_, Ev (fun k => spileref16_At.l0 k l s at_ i) (if i < r then r - 1 else at_) := by
    refine count_up 0 (l.length : Int) _ ?_ ?_
    · intro at_
      rw [if_neg (by omega)]
      refine Ev.step (fun k => spileref16_At.l0.eq_2 ..) ?_
      (repeat' first | assumption | exact Ev.now _ | exact evr rfl | refine evp (by first | omega | exact rfl | assumption | decide | (simp only [decide_eq_true_eq]; omega) | (simp; done) | (simp; omega)) ?_ | refine evn (by first | omega | assumption | decide | (simp only [decide_eq_true_eq]; omega) | (simp; done) | (simp; omega)) ?_)
    · intro i h0 h1 ih at_
      have hs := w64_succ h0 h1 (by omega)
      refine Ev.step (fun k => spileref16_At.l0.eq_2 ..) ?_
      rw [hs]
      by_cases c : i < r
      · rw [if_pos c]
        have := ih i
        have e : (if i + 1 < r then r - 1 else i) = r - 1 := by split <;> omega
        rw [e] at this
        have q := r4 i h0 c
        (repeat' first | assumption | exact Ev.now _ | exact evr rfl | refine evp (by first | omega | exact rfl | assumption | decide | (simp only [decide_eq_true_eq]; omega) | (simp; done) | (simp; omega)) ?_ | refine evn (by first | omega | assumption | decide | (simp only [decide_eq_true_eq]; omega) | (simp; done) | (simp; omega)) ?_)
      · rw [if_neg c]
        have := ih at_
        rw [if_neg (by omega)] at this
        have q := r5 i (by omega) h1
        (repeat' first | assumption | exact Ev.now _ | exact evr rfl | refine evp (by first | omega | exact rfl | assumption | decide | (simp only [decide_eq_true_eq]; omega) | (simp; done) | (simp; omega)) ?_ | refine evn (by first | omega | assumption | decide | (simp only [decide_eq_true_eq]; omega) | (simp; done) | (simp; omega)) ?_)
  have := hat 0 (by omega) (by omega) 0
  rwa [if_pos (by omega)] at this
theorem drop_rd {l : List S30} {i : Int} (h0 : 0 ≤ i) (h1 : i < (l.length : Int)) : l.drop i.toNat = rd_T30 l i :: l.drop (i + 1).toNat := by
  rw [show (i + 1).toNat = i.toNat + 1 from by omega, List.drop_eq_getElem_cons (by omega)]
  congr 1
  unfold rd_T30
  rw [List.getD_eq_getElem?_getD, List.getElem?_eq_getElem (by omega)]
  rfl
def inB (a b : Int) (x : S30) : Bool := decide (a ≤ x.f0 ∧ x.f0 ≤ b)
theorem cut_both (l : List S30) (hl : (l.length : Int) ≤ 128) (a b : Int) : ∀ i, 0 ≤ i → i ≤ (l.length : Int) → ∀ acc : List S30, (acc.length : Int) ≤ i →
    Ev (fun k => density_Cut.l0 k a b acc l (l.length : Int) i) (acc ++ (l.drop i.toNat).filter (inB a b), 0) ∧ Ev (fun k => spileref16_Cut.l0 k l a b acc i) (acc ++ (l.drop i.toNat).filter (inB a b), 0) := by
  refine count_up 0 (l.length : Int) _ ?_ ?_
  · intro acc hacc
    rw [show ((l.length : Int)).toNat = l.length from by omega, List.drop_length, List.filter_nil, List.append_nil]
    exact ⟨Ev.step (fun k => density_Cut.l0.eq_2 ..) (by (repeat' first | assumption | exact Ev.now _ | exact evr rfl | refine evp (by first | omega | exact rfl | assumption | decide | (simp only [decide_eq_true_eq]; omega) | (simp; done) | (simp; omega)) ?_ | refine evn (by first | omega | assumption | decide | (simp only [decide_eq_true_eq]; omega) | (simp; done) | (simp; omega)) ?_)), Ev.step (fun k => spileref16_Cut.l0.eq_2 ..) (by (repeat' first | assumption | exact Ev.now _ | exact evr rfl | refine evp (by first | omega | exact rfl | assumption | decide | (simp only [decide_eq_true_eq]; omega) | (simp; done) | (simp; omega)) ?_ | refine evn (by first | omega | assumption | decide | (simp only [decide_eq_true_eq]; omega) | (simp; done) | (simp; omega)) ?_))⟩
  · intro i h0 h1 ih acc hacc
    have hs := w64_succ h0 h1 (by omega)
    rw [drop_rd h0 h1, List.filter_cons]
    by_cases c : inB a b (rd_T30 l i) = true
    · rw [if_pos c]
      have q := ih (acc ++ [rd_T30 l i]) (by simp; omega)
      rw [List.append_assoc, List.singleton_append] at q
      obtain ⟨q1, q2⟩ := q
      have c2 : a ≤ (rd_T30 l i).f0 ∧ (rd_T30 l i).f0 ≤ b := by simpa [inB] using c
      refine ⟨Ev.step (fun k => density_Cut.l0.eq_2 ..) ?_, Ev.step (fun k => spileref16_Cut.l0.eq_2 ..) ?_⟩
      · rw [hs]; (repeat' first | assumption | exact Ev.now _ | exact evr rfl | refine evp (by first | omega | exact rfl | assumption | decide | (simp only [decide_eq_true_eq]; omega) | (simp; done) | (simp; omega)) ?_ | refine evn (by first | omega | assumption | decide | (simp only [decide_eq_true_eq]; omega) | (simp; done) | (simp; omega)) ?_)
      · rw [hs]; (repeat' first | assumption | exact Ev.now _ | exact evr rfl | refine evp (by first | omega | exact rfl | assumption | decide | (simp only [decide_eq_true_eq]; omega) | (simp; done) | (simp; omega)) ?_ | refine evn (by first | omega | assumption | decide | (simp only [decide_eq_true_eq]; omega) | (simp; done) | (simp; omega)) ?_)
    · rw [if_neg c]
      obtain ⟨q1, q2⟩ := ih acc (by omega)
      have c2 : ¬ (a ≤ (rd_T30 l i).f0 ∧ (rd_T30 l i).f0 ≤ b) := by simpa [inB] using c
      by_cases c3 : (rd_T30 l i).f0 ≥ a
      · refine ⟨Ev.step (fun k => density_Cut.l0.eq_2 ..) ?_, Ev.step (fun k => spileref16_Cut.l0.eq_2 ..) ?_⟩
        · rw [hs]; (repeat' first | assumption | exact Ev.now _ | exact evr rfl | refine evp (by first | omega | exact rfl | assumption | decide | (simp only [decide_eq_true_eq]; omega) | (simp; done) | (simp; omega)) ?_ | refine evn (by first | omega | assumption | decide | (simp only [decide_eq_true_eq]; omega) | (simp; done) | (simp; omega)) ?_)
        · rw [hs]; (repeat' first | assumption | exact Ev.now _ | exact evr rfl | refine evp (by first | omega | exact rfl | assumption | decide | (simp only [decide_eq_true_eq]; omega) | (simp; done) | (simp; omega)) ?_ | refine evn (by first | omega | assumption | decide | (simp only [decide_eq_true_eq]; omega) | (simp; done) | (simp; omega)) ?_)
      · refine ⟨Ev.step (fun k => density_Cut.l0.eq_2 ..) ?_, Ev.step (fun k => spileref16_Cut.l0.eq_2 ..) ?_⟩
        · rw [hs]; (repeat' first | assumption | exact Ev.now _ | exact evr rfl | refine evp (by first | omega | exact rfl | assumption | decide | (simp only [decide_eq_true_eq]; omega) | (simp; done) | (simp; omega)) ?_ | refine evn (by first | omega | assumption | decide | (simp only [decide_eq_true_eq]; omega) | (simp; done) | (simp; omega)) ?_)
        · rw [hs]; (repeat' first | assumption | exact Ev.now _ | exact evr rfl | refine evp (by first | omega | exact rfl | assumption | decide | (simp only [decide_eq_true_eq]; omega) | (simp; done) | (simp; omega)) ?_ | refine evn (by first | omega | assumption | decide | (simp only [decide_eq_true_eq]; omega) | (simp; done) | (simp; omega)) ?_)
theorem few_ev (l : List S30) : ∃ b, spileref16_Few.f l = some b := by
  unfold spileref16_Few.f
  repeat' split
  all_goals exact ⟨_, rfl⟩
/-- What a table's search answers, with both. -/
theorem find_f_both (l : List S30) (hl : (l.length : Int) ≤ 9223372036854775807) (s : Int) : ∃ r, Ev (fun k => density_Find.f k l s) r ∧ Ev (fun k => spileref16_Find.f k l s) r ∧
    ((r.2 ≠ 0 ∧ r.1 = 0 ∧ (¬ Good l ∨ s < 0 ∨ s > 10000)) ∨ (r.2 = 0 ∧ Good l ∧ 0 ≤ s ∧ s ≤ 10000 ∧ 0 ≤ r.1 ∧ r.1 < (l.length : Int) ∧ (rd_T30 l r.1).f0 ≤ s ∧ (r.1 + 1 < (l.length : Int) → s < (rd_T30 l (r.1 + 1)).f0))) := by
  have g1 := right_ev l hl
  have g2 := ref_right_ev l hl
  by_cases g : Good l
  · by_cases c1 : s < 0
    · exact ⟨(0, 2), evb (g1.1 g) (by (repeat' first | assumption | exact Ev.now _ | exact evr rfl | refine evp (by first | omega | exact rfl | assumption | decide | (simp only [decide_eq_true_eq]; omega) | (simp; done) | (simp; omega)) ?_ | refine evn (by first | omega | assumption | decide | (simp only [decide_eq_true_eq]; omega) | (simp; done) | (simp; omega)) ?_)), evb (g2.1 g) (by (repeat' first | assumption | exact Ev.now _ | exact evr rfl | refine evp (by first | omega | exact rfl | assumption | decide | (simp only [decide_eq_true_eq]; omega) | (simp; done) | (simp; omega)) ?_ | refine evn (by first | omega | assumption | decide | (simp only [decide_eq_true_eq]; omega) | (simp; done) | (simp; omega)) ?_)), .inl ⟨by decide, rfl, .inr (.inl c1)⟩⟩
    · by_cases c2 : s > 10000
      · exact ⟨(0, 2), evb (g1.1 g) (by (repeat' first | assumption | exact Ev.now _ | exact evr rfl | refine evp (by first | omega | exact rfl | assumption | decide | (simp only [decide_eq_true_eq]; omega) | (simp; done) | (simp; omega)) ?_ | refine evn (by first | omega | assumption | decide | (simp only [decide_eq_true_eq]; omega) | (simp; done) | (simp; omega)) ?_)), evb (g2.1 g) (by (repeat' first | assumption | exact Ev.now _ | exact evr rfl | refine evp (by first | omega | exact rfl | assumption | decide | (simp only [decide_eq_true_eq]; omega) | (simp; done) | (simp; omega)) ?_ | refine evn (by first | omega | assumption | decide | (simp only [decide_eq_true_eq]; omega) | (simp; done) | (simp; omega)) ?_)), .inl ⟨by decide, rfl, .inr (.inr c2)⟩⟩
      · obtain ⟨r, r1, r2, r3, r4, r5, r6⟩ := find_both l g s (by omega) (by omega)
        refine ⟨(r - 1, 0), evb (g1.1 g) (evp rfl (evn c1 (evn c2 (evb r1 (evr ?_))))), evb (g2.1 g) (evp rfl (evn c1 (evn c2 (evb r2 (Ev.now _))))), .inr ⟨rfl, g, by omega, by omega, by show 0 ≤ r - 1; omega, by show r - 1 < _; omega, r5 (r - 1) (by omega) (by omega), fun q => ?_⟩⟩
        · rw [w64_pred (n := (l.length : Int)) (by omega) (by omega) hl]
        · exact r6 (r - 1 + 1) (by omega) q
  · exact ⟨(0, 1), evb (g1.2 g) (by (repeat' first | assumption | exact Ev.now _ | exact evr rfl | refine evp (by first | omega | exact rfl | assumption | decide | (simp only [decide_eq_true_eq]; omega) | (simp; done) | (simp; omega)) ?_ | refine evn (by first | omega | assumption | decide | (simp only [decide_eq_true_eq]; omega) | (simp; done) | (simp; omega)) ?_)), evb (g2.2 g) (by (repeat' first | assumption | exact Ev.now _ | exact evr rfl | refine evp (by first | omega | exact rfl | assumption | decide | (simp only [decide_eq_true_eq]; omega) | (simp; done) | (simp; omega)) ?_ | refine evn (by first | omega | assumption | decide | (simp only [decide_eq_true_eq]; omega) | (simp; done) | (simp; omega)) ?_)), .inl ⟨by decide, rfl, .inl g⟩⟩
theorem cut_f_both (l : List S30) (hl : (l.length : Int) ≤ 9223372036854775807) (a b : Int) : ∃ r, Ev (fun k => density_Cut.f k l a b) r ∧ Ev (fun k => spileref16_Cut.f k l a b) r ∧ (r.1.length : Int) ≤ l.length ∧
    ((r.2 ≠ 0 ∧ r.1 = [] ∧ (¬ Good l ∨ a < 0 ∨ b < 0 ∨ a > 10000 ∨ b > 10000 ∨ a > b)) ∨ (r.2 = 0 ∧ r.1 = l.filter (inB a b))) := by
  have g1 := right_ev l hl
  have g2 := ref_right_ev l hl
  by_cases g : Good l
  · by_cases c1 : a < 0
    · exact ⟨([], 2), evb (g1.1 g) (by (repeat' first | assumption | exact Ev.now _ | exact evr rfl | refine evp (by first | omega | exact rfl | assumption | decide | (simp only [decide_eq_true_eq]; omega) | (simp; done) | (simp; omega)) ?_ | refine evn (by first | omega | assumption | decide | (simp only [decide_eq_true_eq]; omega) | (simp; done) | (simp; omega)) ?_ | refine Ev.step (fun k => spileref16_Cut.j0.eq_2 ..) ?_)), evb (g2.1 g) (by (repeat' first | assumption | exact Ev.now _ | exact evr rfl | refine evp (by first | omega | exact rfl | assumption | decide | (simp only [decide_eq_true_eq]; omega) | (simp; done) | (simp; omega)) ?_ | refine evn (by first | omega | assumption | decide | (simp only [decide_eq_true_eq]; omega) | (simp; done) | (simp; omega)) ?_ | refine Ev.step (fun k => spileref16_Cut.j0.eq_2 ..) ?_)), by simp, .inl ⟨by decide, rfl, by omega⟩⟩
    · by_cases c2 : b < 0
      · by_cases c3 : a > 10000
        · exact ⟨([], 2), evb (g1.1 g) (by (repeat' first | assumption | exact Ev.now _ | exact evr rfl | refine evp (by first | omega | exact rfl | assumption | decide | (simp only [decide_eq_true_eq]; omega) | (simp; done) | (simp; omega)) ?_ | refine evn (by first | omega | assumption | decide | (simp only [decide_eq_true_eq]; omega) | (simp; done) | (simp; omega)) ?_ | refine Ev.step (fun k => spileref16_Cut.j0.eq_2 ..) ?_)), evb (g2.1 g) (by (repeat' first | assumption | exact Ev.now _ | exact evr rfl | refine evp (by first | omega | exact rfl | assumption | decide | (simp only [decide_eq_true_eq]; omega) | (simp; done) | (simp; omega)) ?_ | refine evn (by first | omega | assumption | decide | (simp only [decide_eq_true_eq]; omega) | (simp; done) | (simp; omega)) ?_ | refine Ev.step (fun k => spileref16_Cut.j0.eq_2 ..) ?_)), by simp, .inl ⟨by decide, rfl, by omega⟩⟩
        · exact ⟨([], 2), evb (g1.1 g) (by (repeat' first | assumption | exact Ev.now _ | exact evr rfl | refine evp (by first | omega | exact rfl | assumption | decide | (simp only [decide_eq_true_eq]; omega) | (simp; done) | (simp; omega)) ?_ | refine evn (by first | omega | assumption | decide | (simp only [decide_eq_true_eq]; omega) | (simp; done) | (simp; omega)) ?_ | refine Ev.step (fun k => spileref16_Cut.j0.eq_2 ..) ?_)), evb (g2.1 g) (by (repeat' first | assumption | exact Ev.now _ | exact evr rfl | refine evp (by first | omega | exact rfl | assumption | decide | (simp only [decide_eq_true_eq]; omega) | (simp; done) | (simp; omega)) ?_ | refine evn (by first | omega | assumption | decide | (simp only [decide_eq_true_eq]; omega) | (simp; done) | (simp; omega)) ?_ | refine Ev.step (fun k => spileref16_Cut.j0.eq_2 ..) ?_)), by simp, .inl ⟨by decide, rfl, by omega⟩⟩
      · by_cases c3 : a > 10000
        · exact ⟨([], 2), evb (g1.1 g) (by (repeat' first | assumption | exact Ev.now _ | exact evr rfl | refine evp (by first | omega | exact rfl | assumption | decide | (simp only [decide_eq_true_eq]; omega) | (simp; done) | (simp; omega)) ?_ | refine evn (by first | omega | assumption | decide | (simp only [decide_eq_true_eq]; omega) | (simp; done) | (simp; omega)) ?_ | refine Ev.step (fun k => spileref16_Cut.j0.eq_2 ..) ?_)), evb (g2.1 g) (by (repeat' first | assumption | exact Ev.now _ | exact evr rfl | refine evp (by first | omega | exact rfl | assumption | decide | (simp only [decide_eq_true_eq]; omega) | (simp; done) | (simp; omega)) ?_ | refine evn (by first | omega | assumption | decide | (simp only [decide_eq_true_eq]; omega) | (simp; done) | (simp; omega)) ?_ | refine Ev.step (fun k => spileref16_Cut.j0.eq_2 ..) ?_)), by simp, .inl ⟨by decide, rfl, by omega⟩⟩
        · by_cases c4 : b > 10000
          · exact ⟨([], 2), evb (g1.1 g) (by (repeat' first | assumption | exact Ev.now _ | exact evr rfl | refine evp (by first | omega | exact rfl | assumption | decide | (simp only [decide_eq_true_eq]; omega) | (simp; done) | (simp; omega)) ?_ | refine evn (by first | omega | assumption | decide | (simp only [decide_eq_true_eq]; omega) | (simp; done) | (simp; omega)) ?_ | refine Ev.step (fun k => spileref16_Cut.j0.eq_2 ..) ?_)), evb (g2.1 g) (by (repeat' first | assumption | exact Ev.now _ | exact evr rfl | refine evp (by first | omega | exact rfl | assumption | decide | (simp only [decide_eq_true_eq]; omega) | (simp; done) | (simp; omega)) ?_ | refine evn (by first | omega | assumption | decide | (simp only [decide_eq_true_eq]; omega) | (simp; done) | (simp; omega)) ?_ | refine Ev.step (fun k => spileref16_Cut.j0.eq_2 ..) ?_)), by simp, .inl ⟨by decide, rfl, by omega⟩⟩
          · by_cases c5 : a > b
            · exact ⟨([], 2), evb (g1.1 g) (by (repeat' first | assumption | exact Ev.now _ | exact evr rfl | refine evp (by first | omega | exact rfl | assumption | decide | (simp only [decide_eq_true_eq]; omega) | (simp; done) | (simp; omega)) ?_ | refine evn (by first | omega | assumption | decide | (simp only [decide_eq_true_eq]; omega) | (simp; done) | (simp; omega)) ?_ | refine Ev.step (fun k => spileref16_Cut.j0.eq_2 ..) ?_)), evb (g2.1 g) (by (repeat' first | assumption | exact Ev.now _ | exact evr rfl | refine evp (by first | omega | exact rfl | assumption | decide | (simp only [decide_eq_true_eq]; omega) | (simp; done) | (simp; omega)) ?_ | refine evn (by first | omega | assumption | decide | (simp only [decide_eq_true_eq]; omega) | (simp; done) | (simp; omega)) ?_ | refine Ev.step (fun k => spileref16_Cut.j0.eq_2 ..) ?_)), by simp, .inl ⟨by decide, rfl, by omega⟩⟩
            · obtain ⟨q1, q2⟩ := cut_both l g.2.1 a b 0 (by omega) (by omega) [] (by simp)
              rw [Int.toNat_zero, List.drop_zero, List.nil_append] at q1 q2
              exact ⟨(l.filter (inB a b), 0), evb (g1.1 g) (by (repeat' first | assumption | exact Ev.now _ | exact evr rfl | refine evp (by first | omega | exact rfl | assumption | decide | (simp only [decide_eq_true_eq]; omega) | (simp; done) | (simp; omega)) ?_ | refine evn (by first | omega | assumption | decide | (simp only [decide_eq_true_eq]; omega) | (simp; done) | (simp; omega)) ?_ | refine Ev.step (fun k => spileref16_Cut.j0.eq_2 ..) ?_)), evb (g2.1 g) (by (repeat' first | assumption | exact Ev.now _ | exact evr rfl | refine evp (by first | omega | exact rfl | assumption | decide | (simp only [decide_eq_true_eq]; omega) | (simp; done) | (simp; omega)) ?_ | refine evn (by first | omega | assumption | decide | (simp only [decide_eq_true_eq]; omega) | (simp; done) | (simp; omega)) ?_ | refine Ev.step (fun k => spileref16_Cut.j0.eq_2 ..) ?_)), by have := List.length_filter_le (inB a b) l; show ((l.filter (inB a b)).length : Int) ≤ _; omega, .inr ⟨rfl, rfl⟩⟩
  · exact ⟨([], 1), evb (g1.2 g) (by (repeat' first | assumption | exact Ev.now _ | exact evr rfl | refine evp (by first | omega | exact rfl | assumption | decide | (simp only [decide_eq_true_eq]; omega) | (simp; done) | (simp; omega)) ?_ | refine evn (by first | omega | assumption | decide | (simp only [decide_eq_true_eq]; omega) | (simp; done) | (simp; omega)) ?_)), evb (g2.2 g) (by (repeat' first | assumption | exact Ev.now _ | exact evr rfl | refine evp (by first | omega | exact rfl | assumption | decide | (simp only [decide_eq_true_eq]; omega) | (simp; done) | (simp; omega)) ?_ | refine evn (by first | omega | assumption | decide | (simp only [decide_eq_true_eq]; omega) | (simp; done) | (simp; omega)) ?_)), by simp, .inl ⟨by decide, rfl, .inl g⟩⟩
end Go.Proofs.YtoofoicocfnfoaaDoor.PL
namespace Go.Proofs.YtoofoicocfnfoaaDoor.PL
open Go Go.RowKit Go.Proofs.YtoofoicocfnfoaaDoorW.PrintWords Go.Proofs.YtoofoicocfnfoaaDoorW.PrintLast Go.Proofs.YtoofoicocfnfoaaDoorW.PrintMore Go.Proofs.YtoofoicocfnfoaaDoor.Pr Go.Proofs.YtoofoicocfnfoaaDoor.Opn
theorem rd_mem30 {l : List S30} {i : Int} (h0 : 0 ≤ i) (h : i < (l.length : Int)) : rd_T30 l i ∈ l := by
  unfold rd_T30
  rw [List.getD_eq_getElem?_getD, List.getElem?_eq_getElem (by omega)]
  exact List.getElem_mem _
theorem rd_of_mem30 {l : List S30} {x : S30} (h : x ∈ l) : ∃ i : Int, 0 ≤ i ∧ i < (l.length : Int) ∧ rd_T30 l i = x := by
  obtain ⟨i, hi⟩ := List.mem_iff_getElem?.1 h
  have hl := (List.getElem?_eq_some_iff.1 hi).1
  refine ⟨(i : Int), by omega, by omega, ?_⟩
  unfold rd_T30
  rw [List.getD_eq_getElem?_getD, Int.toNat_natCast, hi]
  rfl
theorem s30_eq {x y : S30} (h0 : x.f0 = y.f0) (h1 : x.f1 = y.f1) : x = y := by
  cases x; cases y
  simp only at h0 h1
  subst h0 h1
  rfl
/-- A list holds a row. -/
theorem has_ev (l : List S30) (hl : (l.length : Int) ≤ 9223372036854775807) (x : S30) : EvB (fun k => api_Grade_22.f k l x.f0 x.f1) (x ∈ l) := by
  obtain ⟨r, r1, r2⟩ := index_ev (l.length : Int) (fun i => rd_T30 l i = x) (fun i k => api_Grade_38.l0 k l (l.length : Int) i x.f0 x.f1)
    (Ev.step (fun k => api_Grade_38.l0.eq_2 ..) (evn (by omega) (Ev.now _)))
    (fun i h0 h1 q => Ev.step (fun k => api_Grade_38.l0.eq_2 ..) (evp h1 (evp h0 (evp h1 (evp (by rw [q]; simp) (Ev.now _))))))
    (fun i h0 h1 q r hr => by
      have hs := w64_succ h0 h1 hl
      refine Ev.step (fun k => api_Grade_38.l0.eq_2 ..) ?_
      rw [hs]
      refine evp h1 (evp h0 (evp h1 (evn (fun c => q ?_) hr)))
      simp at c
      exact s30_eq c.1.symm c.2.symm) 0 (by omega) (by omega)
  have r1 : Ev (fun k => api_Grade_38.f k l x.f0 x.f1) r := r1
  rcases r2 with ⟨h0, _, h1, h2, _⟩ | ⟨h0, h1⟩
  · exact ⟨fun _ => evb r1 (evr (decide_eq_true h0)), fun h => absurd (h2 ▸ rd_mem30 h0 h1) h⟩
  · refine ⟨fun h => ?_, fun _ => evb r1 (evr (decide_eq_false (by omega)))⟩
    obtain ⟨i, i0, i1, i2⟩ := rd_of_mem30 h
    exact absurd i2 (h1 i i0 i1)
end Go.Proofs.YtoofoicocfnfoaaDoor.PL
namespace Go.Proofs.YtoofoicocfnfoaaDoor.Pure
open Go Go.RowKit Go.Proofs.YtoofoicocfnfoaaDoorW.PrintWords Go.Proofs.YtoofoicocfnfoaaDoorW.PrintLast Go.Proofs.YtoofoicocfnfoaaDoorW.PrintMore Go.Proofs.YtoofoicocfnfoaaDoor.Pr Go.Proofs.YtoofoicocfnfoaaDoor.Opn Go.Proofs.YtoofoicocfnfoaaDoor.X Go.Proofs.YtoofoicocfnfoaaDoor.PL
theorem DensityBetween : densityBetweenPure := by
  intro l a b hl ha hb
  have hl2 := len_le hl.1
  obtain ⟨fw, hf⟩ := few_ev l
  have key : Ev (fun k => spilelaw16_DensityBetween.f k l a b) true := by
    refine evb (a := true) (evc (fun _ => rfl) rfl) (evp rfl (evb (a := fw) (evc (fun _ => rfl) hf) ?_))
    by_cases hw : fw = true
    case neg => exact evn hw (Ev.now _)
    refine evp hw ?_
    obtain ⟨q, q1, _, q3⟩ := find_f_both l hl2 a
    refine evb q1 ?_
    rcases q3 with ⟨c1, c2, _⟩ | ⟨c1, g, s0, s1, p0, p1, p2, p3⟩
    · exact evn c1 (evr (by simpa using c2))
    refine evp c1 (evn (by omega) (evn (by omega) (evp p0 (evp p1 (evn (by omega) ?_)))))
    have hs := w64_succ p0 p1 hl2
    rw [hs]
    have hj : Ev (fun k => spilelaw16_DensityBetween.j0 k l a b false) true := by
      obtain ⟨c, d1, _, d3, d4⟩ := cut_f_both l hl2 a b
      refine Ev.step (fun k => spilelaw16_DensityBetween.j0.eq_2 ..) (evn (by decide) (evb d1 ?_))
      rcases d4 with ⟨f1, f2, f3⟩ | ⟨f1, f2⟩
      · refine evn f1 (evp (by rw [f2]; rfl) ?_)
        by_cases hba : b < a
        · exact evp hba (Ev.now _)
        · refine evn hba (evr (decide_eq_true ?_))
          rcases f3 with f3 | f3
          · exact absurd g f3
          · omega
      · refine evp f1 ?_
        refine count_up 0 (l.length : Int) (fun i => Ev (fun k => spilelaw16_DensityBetween.l0 k l a b c.1 l (l.length : Int) i) true) ?_ ?_ 0 (by omega) (by omega)
        · exact Ev.step (fun k => spilelaw16_DensityBetween.l0.eq_2 ..) (evn (by omega) (evr (decide_eq_true d3)))
        · intro i h0 h1 ih
          have hsi := w64_succ h0 h1 hl2
          obtain ⟨t, t1, t2⟩ := (has_ev c.1 (by omega) (rd_T30 l i)).get
          have hm : rd_T30 l i ∈ c.1 ↔ a ≤ (rd_T30 l i).f0 ∧ (rd_T30 l i).f0 ≤ b := by
            rw [f2, List.mem_filter]
            have := rd_mem30 h0 h1
            simp [inB, this]
          rw [hm] at t2
          refine Ev.step (fun k => spilelaw16_DensityBetween.l0.eq_2 ..) (evp h1 (evp h0 (evp h1 (evb t1 ?_))))
          rw [hsi]
          by_cases ca : (rd_T30 l i).f0 ≥ a
          · refine evp ca (evn ?_ ih)
            by_cases cb : (rd_T30 l i).f0 ≤ b
            · rw [t2.2 ⟨ca, cb⟩, decide_eq_true cb]; decide
            · have : t = false := by
                cases t with
                | false => rfl
                | true => exact absurd (t2.1 rfl).2 cb
              rw [this, decide_eq_false cb]; decide
          · refine evn ca (evn ?_ ih)
            have : t = false := by
              cases t with
              | false => rfl
              | true => exact absurd (t2.1 rfl).1 ca
            rw [this]; decide
    by_cases hn : q.1 + 1 < (l.length : Int)
    · refine evp hn (evp (by omega) ?_)
      have := p3 hn
      rw [decide_eq_false (by omega)]
      exact hj
    · exact evn hn hj
  obtain ⟨K, hK⟩ := key
  exact ⟨K, hK K (Nat.le_refl _)⟩
end Go.Proofs.YtoofoicocfnfoaaDoor.Pure
namespace Go.Proofs.YtoofoicocfnfoaaDoor.densityBetween
open Go Go.ChangeShapes Go.WideShapes Go.ChangeAt Go.RowKit
open Go.ChangeMaps (open_string shut_string)
open Go.Proofs.YtoofoicocfnfoaaDoorW.PrintWords Go.Proofs.YtoofoicocfnfoaaDoor.O Go.Proofs.YtoofoicocfnfoaaDoor.Opn Go.Proofs.YtoofoicocfnfoaaDoor.Pr Go.Proofs.YtoofoicocfnfoaaDoor.X
theorem own : ownKnob Tryd.prog.godebug = none := by kernel_rfl
theorem laidOut : laidOutB Tryd.prog = true := by kernel_rfl
abbrev laidL : List (String × DataW Unit) := [("math/bits.deBruijn32tab", Rows.laid_math_bits_deBruijn32tab), ("math/bits.deBruijn64tab", Rows.laid_math_bits_deBruijn64tab), ("internal/strconv.uint64pow10", Rows.laid_internal_strconv_uint64pow10)]
set_option maxRecDepth 100000 in
theorem lifted (os : Os) (started : os.Started) (H : Type) (enc : TypeId × Value → H)
    (hwit : ∀ args : Array Value, laidMetH Tryd.prog laidL ((World.doorLaid Tryd.prog 400 os).forCall (fun _ _ => 0) ⟨#[], args, []⟩).memory) :
    ReturnsInHanded {} Tryd.checked os 6 .any (fun w args => (Rows.densityBetweenSpec.pre enc Tryd.prog Tryd.f6 [] false w args ∧ laidMetH Tryd.prog laidL w) ∧ sizedMet enc Tryd.prog Tryd.f6 (OpenSpec.ofChange Rows.densityBetweenSpec) false w args)
      (Rows.densityBetweenSpec.post enc Tryd.prog Tryd.f6 false true false false) := by
  refine returnsInHanded_of_change_and (C := Tryd.checked) (X := (fun w _ => laidMetH Tryd.prog laidL w)) (fun _ _ _ hh h => h.of_heap hh) own started (by kernel_rfl) Tryd.func6
    (ChangeSpec.witness_shaped (enc := enc) (C := Tryd.checked) (os := os) (X := (fun w _ => laidMetH Tryd.prog laidL w)) false (World.doorLaid Tryd.prog 400 os) #[.slice none 0 0, .int .i64 0, .int .i64 0] 8 rfl (World.shaped_of_RefB (by kernel_rfl) (by kernel_rfl)) (by kernel_rfl) (by kernel_rfl) (by kernel_rfl) (hwit _)) ?_
  intro W base args ds gs before hval0 hW _ _ hL _
  have hval : ∀ (j : Nat) t v, Tryd.f6.params[j]? = some t → args[j]? = some v → Value.okWide Tryd.prog W .any base t v := hval0
  have hW' := hW
  obtain ⟨p, q, hA0, hV, rfl, hfz, hnd⟩ := hW
  have hA : DataW.TrodAll enc Tryd.prog W 0 (fun _ => true) true Tryd.f6.params.toList args.toList ds p := hA0
  rw [Tryd.params6] at hA hval
  obtain ⟨v0, vs0, d0, ds0, p0, q0, hargs, rfl, rfl, h0, r0⟩ := trodAll_cons hA
  obtain ⟨v1, vs1, d1, ds1, p1, q1, rfl, rfl, rfl, h1, r1⟩ := trodAll_cons r0
  obtain ⟨v2, vs2, d2, ds2, p2, q2, rfl, rfl, rfl, h2, r2⟩ := trodAll_cons r1
  obtain ⟨rfl, rfl, rfl⟩ := trodAll_nil r2
  obtain rfl : args = #[v0, v1, v2] := by cases args; simp_all
  obtain ⟨rfl, rfl⟩ := trodVars_none hV
  obtain ⟨a0_, len0_, cap0_, rfl⟩ := okWide_slice Tryd.underlying22 (hval 0 22 v0 rfl rfl)
  have k0 := h0
  have lt0 : ∀ x ∈ p0, x.block < W.heap.size := by obtain ⟨m, hm⟩ := k0; exact DataW.trod_lt m _ _ _ hm
  obtain ⟨l0, K0, ok0⟩ : ∃ x, (Kd.slice 30 k30).K W x [.slice a0_ len0_ cap0_] ∧ (x.length ≤ maxLen ∧ ∀ x0_, x0_ ∈ x → ok30 x0_) := by
    obtain ⟨fuel, hf⟩ := h0
    exact opens22.2 _ _ _ _ _ _ _ _ _ hf
  obtain ⟨A0, c0, e0, g0, hr0⟩ := K0
  simp only [List.cons.injEq, Value.slice.injEq, and_true] at e0
  obtain ⟨rfl, rfl, rfl⟩ := e0
  obtain ⟨a1, rfl, rfl, rfl, w1⟩ := open_int Tryd.underlying3 (hval 1 3 v1 rfl rfl) h1
  obtain ⟨a2, rfl, rfl, rfl, w2⟩ := open_int Tryd.underlying3 (hval 2 3 v2 rfl rfl) h2
  clear hA0 hval0
  obtain ⟨k, hp⟩ := Pure.DensityBetween l0 a1 a2 ok0 w1 w2
  have hG : GI W := GI.of_laid laidL (by simp [laidL]) hL
  refine (spilelaw16_DensityBetween.calls k _ _ l0 a1 a2 true W hr0 g0 hG rfl hp).mono fun e W' ⟨he, bel⟩ => ?_
  subst he
  exact ⟨_, rfl, _, _, _, [], _, [], hW', trodAll_mk1 (shut_bool Tryd.underlying4 _), (trodAll_cons_mk (Below.trod laidOut (by kernel_rfl) (of_decide_eq_true (by kernel_rfl)) k0 bel lt0) (trodAll_cons_mk (shut_int Tryd.underlying3 w1) (trodAll_cons_mk (shut_int Tryd.underlying3 w2) trodAll_mk0))), rfl, bel.frame _, fun h => by cases h⟩
theorem holds (hwit : ∀ (os : Os) (args : Array Value), laidMetH Tryd.prog laidL ((World.doorLaid Tryd.prog 400 os).forCall (fun _ _ => 0) ⟨#[], args, []⟩).memory) : Rows.DensityBetweenSaid :=
  OpenClaim.holds_of_wide 6 Tryd.f6 rfl rfl rfl rfl rfl rfl rfl ⟨rfl, rfl, rfl, rfl, rfl⟩ rfl rfl rfl rfl rfl (by kernel_rfl) Tryd.func6 (by kernel_rfl)
    (of_decide_eq_true (by kernel_rfl)) (by unfold Func.isWrapper; first | (rw [if_pos (by decide +kernel)]; kernel_rfl) | (rw [if_neg (by decide +kernel)]; exact ⟨rfl, rfl⟩))
    (fun os started H enc _ => lifted os started H enc (hwit os))
theorem door_met (os : Os) (args : Array Value) : laidMetH Tryd.prog laidL ((World.doorLaid Tryd.prog 400 os).forCall (fun _ _ => 0) ⟨#[], args, []⟩).memory :=
  laidMetH_of_parts3 (fuel := 8) (laidMet_of_run' 8 (by kernel_rfl) (by kernel_rfl)) (by kernel_rfl) (by kernel_rfl)
theorem card : Rows.DensityBetweenCardSaid :=
  Claim7.holds_tied_plain_at .later [] [.data, .data, .data] true (true, "d9fa5d4542b48e79648329d3495f6539d36b662583432034243887fb958e9878") true
    (holds door_met) (fun _ h => by cases h) (by kernel_rfl) (fun _ h => by cases h) densityBetween_row_tie rfl ⟨rfl, rfl⟩ (by kernel_rfl) rfl
    (fun f fn hf hfn => by
      obtain rfl : f = 6 := Option.some.inj ((show Tryd.prog.funcNamed "spile/spilelaw16.DensityBetween" = some 6 by kernel_rfl).symm.trans hf) |>.symm
      obtain rfl : fn = Tryd.f6 := (Option.some.inj (Tryd.func6.symm.trans hfn)).symm
      exact ⟨by kernel_rfl, fun j t ht => by
        rw [Tryd.params6] at ht
        have hm : t ∈ [22, 3, 3] := by simpa using Array.mem_of_getElem? ht
        have hall : ([22, 3, 3].all fun u => !Tryd.prog.wantsStandIn u) = true := by kernel_rfl
        exact (show Tryd.prog.wantsStandIn t = false by simpa using List.all_eq_true.1 hall t hm)⟩)
    (by kernel_rfl)
end Go.Proofs.YtoofoicocfnfoaaDoor.densityBetween
namespace Go.Proofs.YtoofoicocfnfoaaDoor
/-- The card, under a short name, for the claim. -/
theorem densityBetween_holds : Rows.DensityBetweenCardSaid := densityBetween.card
#print axioms densityBetween_holds
end Go.Proofs.YtoofoicocfnfoaaDoor
