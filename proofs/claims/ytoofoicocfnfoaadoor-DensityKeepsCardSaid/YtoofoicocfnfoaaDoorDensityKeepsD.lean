/-
The law DensityKeeps returns true for every input that can be read as data, and leaves its arguments as they were: the row, and the card that ties the listed variables to the program's text.
No condition of its own beyond those that the given row prints.
-/
import Derived.Test.YtoofoicocfnfoaaDoorCards
import Derived.Test.YtoofoicocfnfoaaDoorTie
import Derived.ProofKit
import Derived.OpenShut
import Derived.ShutString
import Derived.ChangeOld
import Derived.SizedLaws
import Derived.LaidMore
import Derived.Handed
import Derived.SevenTiedAt
import Derived.LaidSub
import Derived.LaidOnce
import Derived.Stop.Joined
import Derived.Stop.LaidErr
import Derived.Test.YtoofoicocfnfoaaDoorDensityKeepsC
set_option linter.unusedVariables false
set_option linter.unusedSimpArgs false
namespace Go.Proofs.YtoofoicocfnfoaaDoor.Opn
open Go Go.RowKit Go.Proofs.YtoofoicocfnfoaaDoorW.PrintWords Go.Proofs.YtoofoicocfnfoaaDoor.O Go.Proofs.YtoofoicocfnfoaaDoor.Pr
theorem opens3 : Opens Tryd.prog 3 (Kd.int .i64) (fun x => (Lit.int .i64 x).wf = true) := opens_int Tryd.underlying3 (by kernel_rfl)
def ok30 (x : S30) : Prop := (Lit.int .i64 x.f0).wf = true ∧ (Lit.int .i64 x.f1).wf = true
theorem opens30 : Opens Tryd.prog 30 k30 ok30 :=
  ⟨by kernel_rfl, fun H enc w base sp held fuel cs x h => by
    obtain ⟨xs, n, _, _, hl, hx, hf⟩ := DataW.trod_struct Tryd.underlying30 h
    have hc_ : Tryd.prog.cellsOf 30 = 2 := by kernel_rfl
    rw [hc_] at hl
    obtain ⟨c0, c1, rfl⟩ : ∃ c0 c1, cs = [c0, c1] := by
      clear h hf hx
      rcases cs with _ | ⟨c0, _ | ⟨c1, _ | ⟨_, _⟩⟩⟩
      all_goals first | exact ⟨_, _, rfl⟩ | (simp at hl)
    obtain ⟨y0, hy0⟩ : ∃ y, xs[0]? = some y := ⟨xs[0]'(by rw [hx]; decide), List.getElem?_eq_getElem _⟩
    have e0 : DataW.trod enc Tryd.prog w base sp held n 3 ((List.drop 0 [c0, c1]).take (Tryd.prog.cellsOf 3)) = xs[0]? := hf 0 _ rfl
    rw [hy0, show Tryd.prog.cellsOf 3 = 1 from by kernel_rfl] at e0
    obtain ⟨v0, K0, o0⟩ := opens3.2 H enc w base sp held n _ _ e0
    replace K0 : (Kd.int .i64).K w v0 [c0] := K0
    obtain ⟨y1, hy1⟩ : ∃ y, xs[1]? = some y := ⟨xs[1]'(by rw [hx]; decide), List.getElem?_eq_getElem _⟩
    have e1 : DataW.trod enc Tryd.prog w base sp held n 3 ((List.drop 1 [c0, c1]).take (Tryd.prog.cellsOf 3)) = xs[1]? := hf 1 _ rfl
    rw [hy1, show Tryd.prog.cellsOf 3 = 1 from by kernel_rfl] at e1
    obtain ⟨v1, K1, o1⟩ := opens3.2 H enc w base sp held n _ _ e1
    replace K1 : (Kd.int .i64).K w v1 [c1] := K1
    obtain rfl : c0 = _ := List.singleton_inj.1 K0
    obtain rfl : c1 = _ := List.singleton_inj.1 K1
    refine ⟨⟨v0, v1⟩, ?_, o0, o1⟩
    exact k30_mk w ⟨v0, v1⟩ ⟩
theorem opens22 : Opens Tryd.prog 22 (Kd.slice 30 k30) (fun x => (x.length ≤ maxLen ∧ ∀ x0_, x0_ ∈ x → ok30 x0_)) := opens_slice (P := Tryd.prog) (t := 22) (e := 30) Tryd.underlying22 (by kernel_rfl) opens30
end Go.Proofs.YtoofoicocfnfoaaDoor.Opn
namespace Go.Proofs.YtoofoicocfnfoaaDoor.Pure
open Go Go.RowKit Go.Proofs.YtoofoicocfnfoaaDoor.Pr Go.Proofs.YtoofoicocfnfoaaDoor.Opn
def densityKeepsPure : Prop := ∀ (l0 : (List S30)) (l1 : (List S30)), (l0.length ≤ maxLen ∧ ∀ x0_, x0_ ∈ l0 → ok30 x0_) → (l1.length ≤ maxLen ∧ ∀ x0_, x0_ ∈ l1 → ok30 x0_) → ∃ k, spilelaw16_DensityKeeps.f k l0 l1 = some true
end Go.Proofs.YtoofoicocfnfoaaDoor.Pure
namespace Go.Proofs.YtoofoicocfnfoaaDoor.PL
open Go Go.RowKit Go.Proofs.YtoofoicocfnfoaaDoorW.PrintWords Go.Proofs.YtoofoicocfnfoaaDoorW.PrintLast Go.Proofs.YtoofoicocfnfoaaDoorW.PrintMore
theorem evp {α : Type} {c : Prop} [Decidable c] {g h : Nat → Option α} {r : α} (hc : c) (k : Ev g r) : Ev (fun n => if c then g n else h n) r :=
  Ev.congr (fun n => if_pos hc) k
theorem evn {α : Type} {c : Prop} [Decidable c] {g h : Nat → Option α} {r : α} (hc : ¬ c) (k : Ev h r) : Ev (fun n => if c then g n else h n) r :=
  Ev.congr (fun n => if_neg hc) k
theorem evb {α β : Type} {g : Nat → Option α} {f : Nat → α → Option β} {a : α} {r : β} (h : Ev g a) (k : Ev (fun n => f n a) r) : Ev (fun n => (g n).bind (f n)) r := Ev.bind h k
theorem evr {α : Type} {a r : α} (h : a = r) : Ev (fun _ => some a) r := by subst h; exact Ev.now _
theorem evc {α : Type} {g : Nat → Option α} {r : α} {o : Option α} (hg : ∀ n, g n = o) (h : o = some r) : Ev g r := by
  subst h
  exact Ev.congr hg (Ev.now _)
/-- A loop that counts upwards to n. -/
theorem count_up (a n : Int) (P : Int → Prop) (hend : P n) (hround : ∀ i, a ≤ i → i < n → P (i + 1) → P i) : ∀ i, a ≤ i → i ≤ n → P i := by
  intro i h0 h1
  obtain ⟨d, hd⟩ : ∃ d : Nat, n - i = d := ⟨(n - i).toNat, by omega⟩
  induction d generalizing i with
  | zero =>
    obtain rfl : i = n := by omega
    exact hend
  | succ d ih => exact hround i h0 (by omega) (ih (i + 1) (by omega) (by omega) (by omega))
theorem w64 {x : Int} (h0 : -9223372036854775808 ≤ x) (h1 : x ≤ 9223372036854775807) : wrap64 x = x := by
  unfold wrap64
  omega
theorem w64_succ {i n : Int} (h0 : 0 ≤ i) (h : i < n) (hn : n ≤ 9223372036854775807) : wrap64 (i + 1) = i + 1 := w64 (by omega) (by omega)
theorem w64_pred {i n : Int} (h0 : 0 ≤ i) (h : i ≤ n) (hn : n ≤ 9223372036854775807) : wrap64 (i - 1) = i - 1 := w64 (by omega) (by omega)
theorem len_le {α : Type} {l : List α} (h : l.length ≤ maxLen) : (l.length : Int) ≤ 9223372036854775807 := by
  have : l.length ≤ 9223372036854775807 := by simpa [maxLen] using h
  omega
/-- A test that comes to true where P holds, and else to false. -/
def EvB (g : Nat → Option Bool) (P : Prop) : Prop := (P → Ev g true) ∧ (¬ P → Ev g false)
theorem EvB.map {g : Nat → Option Bool} {f : Nat → Bool → Option Bool} {P Q : Prop} (h : EvB g P) (ht : P → EvB (fun n => f n true) Q) (hf : ¬ P → EvB (fun n => f n false) Q) : EvB (fun n => (g n).bind (f n)) Q := by
  by_cases hp : P
  · exact ⟨fun q => Ev.bind (h.1 hp) ((ht hp).1 q), fun q => Ev.bind (h.1 hp) ((ht hp).2 q)⟩
  · exact ⟨fun q => Ev.bind (h.2 hp) ((hf hp).1 q), fun q => Ev.bind (h.2 hp) ((hf hp).2 q)⟩
theorem index_ev (n : Int) (Q : Int → Prop) (L : Int → Nat → Option Int) (hend : Ev (L n) (-1)) (hyes : ∀ i, 0 ≤ i → i < n → Q i → Ev (L i) i)
    (hno : ∀ i, 0 ≤ i → i < n → ¬ Q i → ∀ r, Ev (L (i + 1)) r → Ev (L i) r) : ∀ i, 0 ≤ i → i ≤ n →
    ∃ r, Ev (L i) r ∧ ((0 ≤ r ∧ i ≤ r ∧ r < n ∧ Q r ∧ ∀ j, i ≤ j → j < r → ¬ Q j) ∨ (r = -1 ∧ ∀ j, i ≤ j → j < n → ¬ Q j)) := by
  refine count_up 0 n _ ⟨-1, hend, .inr ⟨rfl, fun j h1 h2 => absurd h2 (by omega)⟩⟩ ?_
  intro i h0 h1 ih
  by_cases hq : Q i
  · exact ⟨i, hyes i h0 h1 hq, .inl ⟨h0, by omega, h1, hq, fun j h2 h3 => absurd h3 (by omega)⟩⟩
  · obtain ⟨r, hr, h⟩ := ih
    refine ⟨r, hno i h0 h1 hq _ hr, ?_⟩
    have ext : ∀ b, (∀ j, i + 1 ≤ j → j < b → ¬ Q j) → ∀ j, i ≤ j → j < b → ¬ Q j := fun b h2 j hj hb => by
      by_cases e : j = i
      · subst e; exact hq
      · exact h2 j (by omega) hb
    rcases h with ⟨a, b, c, d, e⟩ | ⟨a, b⟩
    · exact .inl ⟨a, by omega, c, d, ext r e⟩
    · exact .inr ⟨a, ext n b⟩
end Go.Proofs.YtoofoicocfnfoaaDoor.PL
namespace Go.Proofs.YtoofoicocfnfoaaDoor.PL
open Go Go.RowKit Go.Proofs.YtoofoicocfnfoaaDoorW.PrintWords Go.Proofs.YtoofoicocfnfoaaDoorW.PrintLast Go.Proofs.YtoofoicocfnfoaaDoorW.PrintMore Go.Proofs.YtoofoicocfnfoaaDoor.Pr Go.Proofs.YtoofoicocfnfoaaDoor.Opn
/-- A row's fault. -/
def flt (l : List S30) (i : Int) : Int :=
  if (rd_T30 l i).f0 < 0 ∨ (rd_T30 l i).f0 > 10000 ∨ (rd_T30 l i).f1 < 50000 ∨ (rd_T30 l i).f1 > 120000 then 2
  else if i > 0 ∧ (rd_T30 l i).f0 ≤ (rd_T30 l (i - 1)).f0 then 5
  else if i > 0 ∧ (rd_T30 l i).f1 > (rd_T30 l (i - 1)).f1 then 18 else 0
theorem flt_cases (l : List S30) (i : Int) : (((rd_T30 l i).f0 < 0 ∨ (rd_T30 l i).f0 > 10000 ∨ (rd_T30 l i).f1 < 50000 ∨ (rd_T30 l i).f1 > 120000) ∧ flt l i = 2) ∨
    ((0 ≤ (rd_T30 l i).f0 ∧ (rd_T30 l i).f0 ≤ 10000 ∧ 50000 ≤ (rd_T30 l i).f1 ∧ (rd_T30 l i).f1 ≤ 120000) ∧
      ((i > 0 ∧ (rd_T30 l i).f0 ≤ (rd_T30 l (i - 1)).f0 ∧ flt l i = 5) ∨ (i > 0 ∧ (rd_T30 l (i - 1)).f0 < (rd_T30 l i).f0 ∧ (rd_T30 l i).f1 > (rd_T30 l (i - 1)).f1 ∧ flt l i = 18) ∨
       (flt l i = 0 ∧ (i > 0 → (rd_T30 l (i - 1)).f0 < (rd_T30 l i).f0 ∧ (rd_T30 l i).f1 ≤ (rd_T30 l (i - 1)).f1)))) := by
  unfold flt
  split
  · exact .inl ⟨by assumption, rfl⟩
  · split
    · exact .inr ⟨by omega, .inl ⟨by omega, by omega, rfl⟩⟩
    · split
      · exact .inr ⟨by omega, .inr (.inl ⟨by omega, by omega, by omega, rfl⟩)⟩
      · exact .inr ⟨by omega, .inr (.inr ⟨rfl, by omega⟩)⟩
theorem fault_ev (l : List S30) (hl : (l.length : Int) ≤ 9223372036854775807) (i : Int) (h0 : 0 ≤ i) (h1 : i < (l.length : Int)) : Ev (fun k => density_fault.f k l i) (flt l i) := by
  have hp := w64_pred h0 (Int.le_of_lt h1) hl
  unfold density_fault.f
  rcases flt_cases l i with ⟨a, e⟩ | ⟨a, ⟨b, c, e⟩ | ⟨b, c, d, e⟩ | ⟨e, b⟩⟩ <;> rw [e]
  · by_cases c1 : (rd_T30 l i).f0 < 0
    · (repeat' first | assumption | exact Ev.now _ | exact evr rfl | refine evp (by first | omega | exact rfl | assumption | decide | (simp only [decide_eq_true_eq]; omega) | (simp; done) | (simp; omega)) ?_ | refine evn (by first | omega | assumption | decide | (simp only [decide_eq_true_eq]; omega) | (simp; done) | (simp; omega)) ?_ | refine Ev.step (fun k => density_fault.j0.eq_2 ..) ?_)
    · by_cases c2 : (rd_T30 l i).f0 > 10000
      · (repeat' first | assumption | exact Ev.now _ | exact evr rfl | refine evp (by first | omega | exact rfl | assumption | decide | (simp only [decide_eq_true_eq]; omega) | (simp; done) | (simp; omega)) ?_ | refine evn (by first | omega | assumption | decide | (simp only [decide_eq_true_eq]; omega) | (simp; done) | (simp; omega)) ?_ | refine Ev.step (fun k => density_fault.j0.eq_2 ..) ?_)
      · by_cases c3 : (rd_T30 l i).f1 < 50000
        · (repeat' first | assumption | exact Ev.now _ | exact evr rfl | refine evp (by first | omega | exact rfl | assumption | decide | (simp only [decide_eq_true_eq]; omega) | (simp; done) | (simp; omega)) ?_ | refine evn (by first | omega | assumption | decide | (simp only [decide_eq_true_eq]; omega) | (simp; done) | (simp; omega)) ?_ | refine Ev.step (fun k => density_fault.j0.eq_2 ..) ?_)
        · (repeat' first | assumption | exact Ev.now _ | exact evr rfl | refine evp (by first | omega | exact rfl | assumption | decide | (simp only [decide_eq_true_eq]; omega) | (simp; done) | (simp; omega)) ?_ | refine evn (by first | omega | assumption | decide | (simp only [decide_eq_true_eq]; omega) | (simp; done) | (simp; omega)) ?_ | refine Ev.step (fun k => density_fault.j0.eq_2 ..) ?_)
  · refine evp h0 (evp h1 (evn (by omega) (evn (by omega) (evn (by omega) (Ev.step (fun k => density_fault.j0.eq_2 ..) ?_)))))
    rw [hp]
    (repeat' first | assumption | exact Ev.now _ | exact evr rfl | refine evp (by first | omega | exact rfl | assumption | decide | (simp only [decide_eq_true_eq]; omega) | (simp; done) | (simp; omega)) ?_ | refine evn (by first | omega | assumption | decide | (simp only [decide_eq_true_eq]; omega) | (simp; done) | (simp; omega)) ?_ | refine Ev.step (fun k => density_fault.j1.eq_2 ..) ?_)
  · refine evp h0 (evp h1 (evn (by omega) (evn (by omega) (evn (by omega) (Ev.step (fun k => density_fault.j0.eq_2 ..) ?_)))))
    rw [hp]
    refine evn (by simp; omega) (evp b (evp (by omega) (evp (by omega) (Ev.step (fun k => density_fault.j1.eq_2 ..) ?_))))
    rw [hp]
    (repeat' first | assumption | exact Ev.now _ | exact evr rfl | refine evp (by first | omega | exact rfl | assumption | decide | (simp only [decide_eq_true_eq]; omega) | (simp; done) | (simp; omega)) ?_ | refine evn (by first | omega | assumption | decide | (simp only [decide_eq_true_eq]; omega) | (simp; done) | (simp; omega)) ?_ | refine Ev.step (fun k => density_fault.j1.eq_2 ..) ?_)
  · refine evp h0 (evp h1 (evn (by omega) (evn (by omega) (evn (by omega) (Ev.step (fun k => density_fault.j0.eq_2 ..) ?_)))))
    rw [hp]
    by_cases c : i > 0
    · obtain ⟨b1, b2⟩ := b c
      refine evn (by simp; omega) (evp c (evp (by omega) (evp (by omega) (Ev.step (fun k => density_fault.j1.eq_2 ..) ?_))))
      rw [hp]
      (repeat' first | assumption | exact Ev.now _ | exact evr rfl | refine evp (by first | omega | exact rfl | assumption | decide | (simp only [decide_eq_true_eq]; omega) | (simp; done) | (simp; omega)) ?_ | refine evn (by first | omega | assumption | decide | (simp only [decide_eq_true_eq]; omega) | (simp; done) | (simp; omega)) ?_ | refine Ev.step (fun k => density_fault.j1.eq_2 ..) ?_)
    · (repeat' first | assumption | exact Ev.now _ | exact evr rfl | refine evp (by first | omega | exact rfl | assumption | decide | (simp only [decide_eq_true_eq]; omega) | (simp; done) | (simp; omega)) ?_ | refine evn (by first | omega | assumption | decide | (simp only [decide_eq_true_eq]; omega) | (simp; done) | (simp; omega)) ?_ | refine Ev.step (fun k => density_fault.j1.eq_2 ..) ?_)
theorem ref_one (l : List S30) (hl : (l.length : Int) ≤ 9223372036854775807) (i : Int) (h0 : 0 ≤ i) (h1 : i < (l.length : Int)) :
    (flt l i ≠ 0 → Ev (fun k => spileref16_Check.l0 k l i) (i, flt l i)) ∧ (flt l i = 0 → ∀ r, Ev (fun k => spileref16_Check.l0 k l (i + 1)) r → Ev (fun k => spileref16_Check.l0 k l i) r) := by
  have hp := w64_pred h0 (Int.le_of_lt h1) hl
  have hs := w64_succ h0 h1 hl
  rcases flt_cases l i with ⟨a, e⟩ | ⟨a, ⟨b, c, e⟩ | ⟨b, c, d, e⟩ | ⟨e, b⟩⟩ <;> rw [e]
  · refine ⟨fun _ => ?_, fun h => absurd h (by decide)⟩
    by_cases c1 : (rd_T30 l i).f0 < 0
    · refine Ev.step (fun k => spileref16_Check.l0.eq_2 ..) ?_
      (repeat' first | assumption | exact Ev.now _ | exact evr rfl | refine evp (by first | omega | exact rfl | assumption | decide | (simp only [decide_eq_true_eq]; omega) | (simp; done) | (simp; omega)) ?_ | refine evn (by first | omega | assumption | decide | (simp only [decide_eq_true_eq]; omega) | (simp; done) | (simp; omega)) ?_ | refine Ev.step (fun k => spileref16_Check.j1.eq_2 ..) ?_)
    · by_cases c2 : (rd_T30 l i).f0 > 10000
      · refine Ev.step (fun k => spileref16_Check.l0.eq_2 ..) ?_
        (repeat' first | assumption | exact Ev.now _ | exact evr rfl | refine evp (by first | omega | exact rfl | assumption | decide | (simp only [decide_eq_true_eq]; omega) | (simp; done) | (simp; omega)) ?_ | refine evn (by first | omega | assumption | decide | (simp only [decide_eq_true_eq]; omega) | (simp; done) | (simp; omega)) ?_ | refine Ev.step (fun k => spileref16_Check.j1.eq_2 ..) ?_)
      · by_cases c3 : (rd_T30 l i).f1 < 50000
        · refine Ev.step (fun k => spileref16_Check.l0.eq_2 ..) ?_
          (repeat' first | assumption | exact Ev.now _ | exact evr rfl | refine evp (by first | omega | exact rfl | assumption | decide | (simp only [decide_eq_true_eq]; omega) | (simp; done) | (simp; omega)) ?_ | refine evn (by first | omega | assumption | decide | (simp only [decide_eq_true_eq]; omega) | (simp; done) | (simp; omega)) ?_ | refine Ev.step (fun k => spileref16_Check.j1.eq_2 ..) ?_)
        · refine Ev.step (fun k => spileref16_Check.l0.eq_2 ..) ?_
          (repeat' first | assumption | exact Ev.now _ | exact evr rfl | refine evp (by first | omega | exact rfl | assumption | decide | (simp only [decide_eq_true_eq]; omega) | (simp; done) | (simp; omega)) ?_ | refine evn (by first | omega | assumption | decide | (simp only [decide_eq_true_eq]; omega) | (simp; done) | (simp; omega)) ?_ | refine Ev.step (fun k => spileref16_Check.j1.eq_2 ..) ?_)
  · refine ⟨fun _ => ?_, fun h => absurd h (by decide)⟩
    refine Ev.step (fun k => spileref16_Check.l0.eq_2 ..) (evp h1 (evp h0 (evn (by omega) (evn (by omega) (evn (by omega) (Ev.step (fun k => spileref16_Check.j1.eq_2 ..) ?_))))))
    rw [hp]
    (repeat' first | assumption | exact Ev.now _ | exact evr rfl | refine evp (by first | omega | exact rfl | assumption | decide | (simp only [decide_eq_true_eq]; omega) | (simp; done) | (simp; omega)) ?_ | refine evn (by first | omega | assumption | decide | (simp only [decide_eq_true_eq]; omega) | (simp; done) | (simp; omega)) ?_ | refine Ev.step (fun k => spileref16_Check.j2.eq_2 ..) ?_)
  · refine ⟨fun _ => ?_, fun h => absurd h (by decide)⟩
    refine Ev.step (fun k => spileref16_Check.l0.eq_2 ..) (evp h1 (evp h0 (evn (by omega) (evn (by omega) (evn (by omega) (Ev.step (fun k => spileref16_Check.j1.eq_2 ..) ?_))))))
    rw [hp]
    refine evn (by simp; omega) (evp b (evp h0 (evp h1 (evp (by omega) (evp (by omega) (Ev.step (fun k => spileref16_Check.j2.eq_2 ..) ?_))))))
    rw [hp]
    (repeat' first | assumption | exact Ev.now _ | exact evr rfl | refine evp (by first | omega | exact rfl | assumption | decide | (simp only [decide_eq_true_eq]; omega) | (simp; done) | (simp; omega)) ?_ | refine evn (by first | omega | assumption | decide | (simp only [decide_eq_true_eq]; omega) | (simp; done) | (simp; omega)) ?_)
  · refine ⟨fun h => absurd rfl h, fun _ r hr => ?_⟩
    refine Ev.step (fun k => spileref16_Check.l0.eq_2 ..) (evp h1 (evp h0 (evn (by omega) (evn (by omega) (evn (by omega) (Ev.step (fun k => spileref16_Check.j1.eq_2 ..) ?_))))))
    rw [hp]
    by_cases c : i > 0
    · obtain ⟨b1, b2⟩ := b c
      refine evn (by simp; omega) (evp c (evp h0 (evp h1 (evp (by omega) (evp (by omega) (Ev.step (fun k => spileref16_Check.j2.eq_2 ..) ?_))))))
      rw [hp, hs]
      (repeat' first | assumption | exact Ev.now _ | exact evr rfl | refine evp (by first | omega | exact rfl | assumption | decide | (simp only [decide_eq_true_eq]; omega) | (simp; done) | (simp; omega)) ?_ | refine evn (by first | omega | assumption | decide | (simp only [decide_eq_true_eq]; omega) | (simp; done) | (simp; omega)) ?_)
    · refine evn (by simp; omega) (evn c (Ev.step (fun k => spileref16_Check.j2.eq_2 ..) ?_))
      rw [hs]
      (repeat' first | assumption | exact Ev.now _ | exact evr rfl | refine evp (by first | omega | exact rfl | assumption | decide | (simp only [decide_eq_true_eq]; omega) | (simp; done) | (simp; omega)) ?_ | refine evn (by first | omega | assumption | decide | (simp only [decide_eq_true_eq]; omega) | (simp; done) | (simp; omega)) ?_)
/-- What stands at a check's end. -/
def tl (l : List S30) : Int × Int := if (rd_T30 l 0).f0 = 0 then (if (rd_T30 l ((l.length : Int) - 1)).f0 = 10000 then (-1, 0) else ((l.length : Int) - 1, 10)) else (0, 10)
theorem tl_cases (l : List S30) : ((rd_T30 l 0).f0 = 0 ∧ (rd_T30 l ((l.length : Int) - 1)).f0 = 10000 ∧ tl l = (-1, 0)) ∨ ((rd_T30 l 0).f0 = 0 ∧ ¬ (rd_T30 l ((l.length : Int) - 1)).f0 = 10000 ∧ tl l = ((l.length : Int) - 1, 10)) ∨ (¬ (rd_T30 l 0).f0 = 0 ∧ tl l = (0, 10)) := by
  unfold tl
  split
  · split
    · exact .inl ⟨by assumption, by assumption, rfl⟩
    · exact .inr (.inl ⟨by assumption, by assumption, rfl⟩)
  · exact .inr (.inr ⟨by assumption, rfl⟩)
def Spec (l : List S30) (i : Int) (r : Int × Int) : Prop :=
  (∃ j, i ≤ j ∧ j < (l.length : Int) ∧ flt l j ≠ 0 ∧ r = (j, flt l j) ∧ ∀ m, i ≤ m → m < j → flt l m = 0) ∨ ((∀ m, i ≤ m → m < (l.length : Int) → flt l m = 0) ∧ r = tl l)
theorem loops (l : List S30) (h2 : 2 ≤ (l.length : Int)) (hl : (l.length : Int) ≤ 9223372036854775807) : ∀ i, 0 ≤ i → i ≤ (l.length : Int) →
    ∃ r, Ev (fun k => density_Check.l0 k l (l.length : Int) i) r ∧ Ev (fun k => spileref16_Check.l0 k l i) r ∧ Spec l i r := by
  have hp := w64_pred (i := (l.length : Int)) (by omega) (Int.le_refl _) hl
  refine count_up 0 (l.length : Int) _ ?_ ?_
  · refine ⟨tl l, ?_, ?_, .inr ⟨fun m a b => absurd b (by omega), rfl⟩⟩
    · refine Ev.step (fun k => density_Check.l0.eq_2 ..) ?_
      rw [hp]
      rcases tl_cases l with ⟨a, b, e⟩ | ⟨a, b, e⟩ | ⟨a, e⟩ <;> rw [e]
      · (repeat' first | assumption | exact Ev.now _ | exact evr rfl | refine evp (by first | omega | exact rfl | assumption | decide | (simp only [decide_eq_true_eq]; omega) | (simp; done) | (simp; omega)) ?_ | refine evn (by first | omega | assumption | decide | (simp only [decide_eq_true_eq]; omega) | (simp; done) | (simp; omega)) ?_)
      · (repeat' first | assumption | exact Ev.now _ | exact evr rfl | refine evp (by first | omega | exact rfl | assumption | decide | (simp only [decide_eq_true_eq]; omega) | (simp; done) | (simp; omega)) ?_ | refine evn (by first | omega | assumption | decide | (simp only [decide_eq_true_eq]; omega) | (simp; done) | (simp; omega)) ?_)
      · (repeat' first | assumption | exact Ev.now _ | exact evr rfl | refine evp (by first | omega | exact rfl | assumption | decide | (simp only [decide_eq_true_eq]; omega) | (simp; done) | (simp; omega)) ?_ | refine evn (by first | omega | assumption | decide | (simp only [decide_eq_true_eq]; omega) | (simp; done) | (simp; omega)) ?_)
    · refine Ev.step (fun k => spileref16_Check.l0.eq_2 ..) ?_
      rw [hp]
      rcases tl_cases l with ⟨a, b, e⟩ | ⟨a, b, e⟩ | ⟨a, e⟩ <;> rw [e]
      · (repeat' first | assumption | exact Ev.now _ | exact evr rfl | refine evp (by first | omega | exact rfl | assumption | decide | (simp only [decide_eq_true_eq]; omega) | (simp; done) | (simp; omega)) ?_ | refine evn (by first | omega | assumption | decide | (simp only [decide_eq_true_eq]; omega) | (simp; done) | (simp; omega)) ?_)
      · (repeat' first | assumption | exact Ev.now _ | exact evr rfl | refine evp (by first | omega | exact rfl | assumption | decide | (simp only [decide_eq_true_eq]; omega) | (simp; done) | (simp; omega)) ?_ | refine evn (by first | omega | assumption | decide | (simp only [decide_eq_true_eq]; omega) | (simp; done) | (simp; omega)) ?_)
      · (repeat' first | assumption | exact Ev.now _ | exact evr rfl | refine evp (by first | omega | exact rfl | assumption | decide | (simp only [decide_eq_true_eq]; omega) | (simp; done) | (simp; omega)) ?_ | refine evn (by first | omega | assumption | decide | (simp only [decide_eq_true_eq]; omega) | (simp; done) | (simp; omega)) ?_)
  · intro i h0 h1 ih
    have hs := w64_succ h0 h1 hl
    have hf := fault_ev l hl i h0 h1
    have hr := ref_one l hl i h0 h1
    by_cases e : flt l i = 0
    · obtain ⟨r, r1, r2, r3⟩ := ih
      refine ⟨r, ?_, hr.2 e r r2, ?_⟩
      · refine Ev.step (fun k => density_Check.l0.eq_2 ..) (evp h1 (evb hf (evp e ?_)))
        rw [hs]
        exact r1
      · rcases r3 with ⟨j, a, b, c, d, f⟩ | ⟨a, b⟩
        · refine .inl ⟨j, by omega, b, c, d, fun m m1 m2 => ?_⟩
          by_cases q : m = i
          · subst q; exact e
          · exact f m (by omega) m2
        · refine .inr ⟨fun m m1 m2 => ?_, b⟩
          by_cases q : m = i
          · subst q; exact e
          · exact a m (by omega) m2
    · exact ⟨(i, flt l i), Ev.step (fun k => density_Check.l0.eq_2 ..) (evp h1 (evb hf (evn e (Ev.now _)))), hr.1 e, .inl ⟨i, Int.le_refl _, h1, e, rfl, fun m m1 m2 => absurd m2 (by omega)⟩⟩
/-- A table without fault. -/
def Good (l : List S30) : Prop := 2 ≤ (l.length : Int) ∧ (l.length : Int) ≤ 128 ∧ (∀ m, 0 ≤ m → m < (l.length : Int) → flt l m = 0) ∧ (rd_T30 l 0).f0 = 0 ∧ (rd_T30 l ((l.length : Int) - 1)).f0 = 10000
theorem tl_ok {l : List S30} : (tl l).2 = 0 ↔ ((rd_T30 l 0).f0 = 0 ∧ (rd_T30 l ((l.length : Int) - 1)).f0 = 10000) := by
  rcases tl_cases l with ⟨a, b, e⟩ | ⟨a, b, e⟩ | ⟨a, e⟩ <;> rw [e]
  · exact ⟨fun _ => ⟨a, b⟩, fun _ => rfl⟩
  · exact ⟨fun h => absurd (show (10 : Int) = 0 from h) (by decide), fun h => absurd h.2 b⟩
  · exact ⟨fun h => absurd h (by decide), fun h => absurd h.1 a⟩
theorem check_both (l : List S30) (hl : (l.length : Int) ≤ 9223372036854775807) : ∃ r, Ev (fun k => density_Check.f k l) r ∧ Ev (fun k => spileref16_Check.f k l) r ∧ (r.2 = 0 ↔ Good l) ∧ (2 ≤ (l.length : Int) → (l.length : Int) ≤ 128 → Spec l 0 r) := by
  unfold density_Check.f spileref16_Check.f
  by_cases c1 : (l.length : Int) > 128
  · exact ⟨(-1, 8), by (repeat' first | assumption | exact Ev.now _ | exact evr rfl | refine evp (by first | omega | exact rfl | assumption | decide | (simp only [decide_eq_true_eq]; omega) | (simp; done) | (simp; omega)) ?_ | refine evn (by first | omega | assumption | decide | (simp only [decide_eq_true_eq]; omega) | (simp; done) | (simp; omega)) ?_), by (repeat' first | assumption | exact Ev.now _ | exact evr rfl | refine evp (by first | omega | exact rfl | assumption | decide | (simp only [decide_eq_true_eq]; omega) | (simp; done) | (simp; omega)) ?_ | refine evn (by first | omega | assumption | decide | (simp only [decide_eq_true_eq]; omega) | (simp; done) | (simp; omega)) ?_), ⟨fun h => absurd h (by decide), fun h => absurd h.2.1 (by omega)⟩, fun _ h => absurd h (by omega)⟩
  · by_cases c2 : (l.length : Int) < 2
    · exact ⟨(-1, 9), by (repeat' first | assumption | exact Ev.now _ | exact evr rfl | refine evp (by first | omega | exact rfl | assumption | decide | (simp only [decide_eq_true_eq]; omega) | (simp; done) | (simp; omega)) ?_ | refine evn (by first | omega | assumption | decide | (simp only [decide_eq_true_eq]; omega) | (simp; done) | (simp; omega)) ?_), by (repeat' first | assumption | exact Ev.now _ | exact evr rfl | refine evp (by first | omega | exact rfl | assumption | decide | (simp only [decide_eq_true_eq]; omega) | (simp; done) | (simp; omega)) ?_ | refine evn (by first | omega | assumption | decide | (simp only [decide_eq_true_eq]; omega) | (simp; done) | (simp; omega)) ?_), ⟨fun h => absurd h (by decide), fun h => absurd h.1 (by omega)⟩, fun h => absurd h (by omega)⟩
    · obtain ⟨r, r1, r2, r3⟩ := loops l (by omega) hl 0 (by omega) (by omega)
      refine ⟨r, by (repeat' first | assumption | exact Ev.now _ | exact evr rfl | refine evp (by first | omega | exact rfl | assumption | decide | (simp only [decide_eq_true_eq]; omega) | (simp; done) | (simp; omega)) ?_ | refine evn (by first | omega | assumption | decide | (simp only [decide_eq_true_eq]; omega) | (simp; done) | (simp; omega)) ?_), by (repeat' first | assumption | exact Ev.now _ | exact evr rfl | refine evp (by first | omega | exact rfl | assumption | decide | (simp only [decide_eq_true_eq]; omega) | (simp; done) | (simp; omega)) ?_ | refine evn (by first | omega | assumption | decide | (simp only [decide_eq_true_eq]; omega) | (simp; done) | (simp; omega)) ?_), ?_, fun _ _ => r3⟩
      rcases r3 with ⟨j, a, b, c, rfl, f⟩ | ⟨a, rfl⟩
      · exact ⟨fun h => absurd h c, fun h => absurd (h.2.2.1 j a b) c⟩
      · rw [tl_ok]
        exact ⟨fun h => ⟨by omega, by omega, a, h.1, h.2⟩, fun h => ⟨h.2.2.2.1, h.2.2.2.2⟩⟩
theorem right_ev (l : List S30) (hl : (l.length : Int) ≤ 9223372036854775807) : EvB (fun k => density_right.f k l) (Good l) := by
  obtain ⟨r, r1, _, r3, _⟩ := check_both l hl
  exact ⟨fun h => evb r1 (evr (by simpa using r3.2 h)), fun h => evb r1 (evr (by simpa using fun q => h (r3.1 q)))⟩
theorem ref_right_ev (l : List S30) (hl : (l.length : Int) ≤ 9223372036854775807) : EvB (fun k => spileref16_Right.f k l) (Good l) := by
  obtain ⟨r, _, r1, r3, _⟩ := check_both l hl
  exact ⟨fun h => evb r1 (evr (by simpa using r3.2 h)), fun h => evb r1 (evr (by simpa using fun q => h (r3.1 q)))⟩
theorem good_step {l : List S30} (h : Good l) {m : Int} (h0 : 0 < m) (h1 : m < (l.length : Int)) : (rd_T30 l (m - 1)).f0 < (rd_T30 l m).f0 := by
  have e := h.2.2.1 m (by omega) h1
  rcases flt_cases l m with ⟨_, e2⟩ | ⟨_, ⟨_, _, e2⟩ | ⟨_, _, _, e2⟩ | ⟨_, b⟩⟩
  · omega
  · omega
  · omega
  · exact (b h0).1
theorem good_row {l : List S30} (h : Good l) {m : Int} (h0 : 0 ≤ m) (h1 : m < (l.length : Int)) : 0 ≤ (rd_T30 l m).f0 ∧ (rd_T30 l m).f0 ≤ 10000 ∧ 50000 ≤ (rd_T30 l m).f1 ∧ (rd_T30 l m).f1 ≤ 120000 := by
  have e := h.2.2.1 m h0 h1
  rcases flt_cases l m with ⟨_, e2⟩ | ⟨a, _⟩
  · omega
  · exact a
theorem good_lt {l : List S30} (h : Good l) : ∀ (d : Nat) (a : Int), 0 ≤ a → a + d + 1 < (l.length : Int) → (rd_T30 l a).f0 < (rd_T30 l (a + d + 1)).f0
  | 0, a, h0, h1 => by
    have := good_step h (m := a + (0 : Nat) + 1) (by omega) h1
    rwa [show a + ((0 : Nat) : Int) + 1 - 1 = a from by omega] at this
  | d + 1, a, h0, h1 => by
    have e1 := good_lt h d a h0 (by omega)
    have e2 := good_step h (m := a + (d + 1 : Nat) + 1) (by omega) h1
    rw [show a + ((d + 1 : Nat) : Int) + 1 - 1 = a + d + 1 from by omega] at e2
    omega
theorem good_mono {l : List S30} (h : Good l) {a b : Int} (h0 : 0 ≤ a) (h1 : a < b) (h2 : b < (l.length : Int)) : (rd_T30 l a).f0 < (rd_T30 l b).f0 := by
  have := good_lt h (b - a - 1).toNat a h0 (by omega)
  rwa [show a + ((b - a - 1).toNat : Int) + 1 = b from by omega] at this
theorem drop_rd {l : List S30} {i : Int} (h0 : 0 ≤ i) (h1 : i < (l.length : Int)) : l.drop i.toNat = rd_T30 l i :: l.drop (i + 1).toNat := by
  rw [show (i + 1).toNat = i.toNat + 1 from by omega, List.drop_eq_getElem_cons (by omega)]
  congr 1
  unfold rd_T30
  rw [List.getD_eq_getElem?_getD, List.getElem?_eq_getElem (by omega)]
  rfl
theorem few_ev (l : List S30) : ∃ b, spileref16_Few.f l = some b := by
  unfold spileref16_Few.f
  repeat' split
  all_goals exact ⟨_, rfl⟩
end Go.Proofs.YtoofoicocfnfoaaDoor.PL
namespace Go.Proofs.YtoofoicocfnfoaaDoor.PL
open Go Go.RowKit Go.Proofs.YtoofoicocfnfoaaDoorW.PrintWords Go.Proofs.YtoofoicocfnfoaaDoorW.PrintLast Go.Proofs.YtoofoicocfnfoaaDoorW.PrintMore Go.Proofs.YtoofoicocfnfoaaDoor.Pr Go.Proofs.YtoofoicocfnfoaaDoor.Opn
theorem rd_mem30 {l : List S30} {i : Int} (h0 : 0 ≤ i) (h : i < (l.length : Int)) : rd_T30 l i ∈ l := by
  unfold rd_T30
  rw [List.getD_eq_getElem?_getD, List.getElem?_eq_getElem (by omega)]
  exact List.getElem_mem _
theorem rd_of_mem30 {l : List S30} {x : S30} (h : x ∈ l) : ∃ i : Int, 0 ≤ i ∧ i < (l.length : Int) ∧ rd_T30 l i = x := by
  obtain ⟨i, hi⟩ := List.mem_iff_getElem?.1 h
  have hl := (List.getElem?_eq_some_iff.1 hi).1
  refine ⟨(i : Int), by omega, by omega, ?_⟩
  unfold rd_T30
  rw [List.getD_eq_getElem?_getD, Int.toNat_natCast, hi]
  rfl
theorem s30_eq {x y : S30} (h0 : x.f0 = y.f0) (h1 : x.f1 = y.f1) : x = y := by
  cases x; cases y
  simp only at h0 h1
  subst h0 h1
  rfl
/-- A list holds a row. -/
theorem has_ev (l : List S30) (hl : (l.length : Int) ≤ 9223372036854775807) (x : S30) : EvB (fun k => api_Grade_22.f k l x.f0 x.f1) (x ∈ l) := by
  obtain ⟨r, r1, r2⟩ := index_ev (l.length : Int) (fun i => rd_T30 l i = x) (fun i k => api_Grade_38.l0 k l (l.length : Int) i x.f0 x.f1)
    (Ev.step (fun k => api_Grade_38.l0.eq_2 ..) (evn (by omega) (Ev.now _)))
    (fun i h0 h1 q => Ev.step (fun k => api_Grade_38.l0.eq_2 ..) (evp h1 (evp h0 (evp h1 (evp (by rw [q]; simp) (Ev.now _))))))
    (fun i h0 h1 q r hr => by
      have hs := w64_succ h0 h1 hl
      refine Ev.step (fun k => api_Grade_38.l0.eq_2 ..) ?_
      rw [hs]
      refine evp h1 (evp h0 (evp h1 (evn (fun c => q ?_) hr)))
      simp at c
      exact s30_eq c.1.symm c.2.symm) 0 (by omega) (by omega)
  have r1 : Ev (fun k => api_Grade_38.f k l x.f0 x.f1) r := r1
  rcases r2 with ⟨h0, _, h1, h2, _⟩ | ⟨h0, h1⟩
  · exact ⟨fun _ => evb r1 (evr (decide_eq_true h0)), fun h => absurd (h2 ▸ rd_mem30 h0 h1) h⟩
  · refine ⟨fun h => ?_, fun _ => evb r1 (evr (decide_eq_false (by omega)))⟩
    obtain ⟨i, i0, i1, i2⟩ := rd_of_mem30 h
    exact absurd i2 (h1 i i0 i1)
/-- A list holds a row of a strength. -/
theorem strength_ev25 (l : List S30) (hl : (l.length : Int) ≤ 9223372036854775807) (x : S30) : EvB (fun k => api_Grade_24_at_25.f k l x.f0 x.f1) (∃ y ∈ l, y.f0 = x.f0) := by
  obtain ⟨r, r1, r2⟩ := index_ev (l.length : Int) (fun i => (rd_T30 l i).f0 = x.f0) (fun i k => api_Grade_39_at_25.l0 k l (l.length : Int) i x.f0 x.f1)
    (Ev.step (fun k => api_Grade_39_at_25.l0.eq_2 ..) (evn (by omega) (Ev.now _)))
    (fun i h0 h1 q => Ev.step (fun k => api_Grade_39_at_25.l0.eq_2 ..) (evp h1 (evp h0 (evp h1 (evb (a := true) (evc (fun _ => rfl) (by unfold spilelaw16_DensityKeeps_1.f; rw [q]; simp)) (evp rfl (Ev.now _)))))))
    (fun i h0 h1 q r hr => by
      have hs := w64_succ h0 h1 hl
      refine Ev.step (fun k => api_Grade_39_at_25.l0.eq_2 ..) ?_
      rw [hs]
      exact evp h1 (evp h0 (evp h1 (evb (a := false) (evc (fun _ => rfl) (by unfold spilelaw16_DensityKeeps_1.f; simpa using q)) (evn (by decide) hr))))) 0 (by omega) (by omega)
  have r1 : Ev (fun k => api_Grade_39_at_25.f k l x.f0 x.f1) r := r1
  rcases r2 with ⟨h0, _, h1, h2, _⟩ | ⟨h0, h1⟩
  · exact ⟨fun _ => evb r1 (evr (decide_eq_true h0)), fun h => absurd ⟨_, rd_mem30 h0 h1, h2⟩ h⟩
  · refine ⟨fun h => ?_, fun _ => evb r1 (evr (decide_eq_false (by omega)))⟩
    obtain ⟨y, hy, e⟩ := h
    obtain ⟨i, i0, i1, i2⟩ := rd_of_mem30 hy
    exact absurd (show (rd_T30 l i).f0 = x.f0 by rw [i2]; exact e) (h1 i i0 i1)
theorem strength_ev26 (l : List S30) (hl : (l.length : Int) ≤ 9223372036854775807) (x : S30) : EvB (fun k => api_Grade_24_at_26.f k l x.f0 x.f1) (∃ y ∈ l, y.f0 = x.f0) := by
  obtain ⟨r, r1, r2⟩ := index_ev (l.length : Int) (fun i => (rd_T30 l i).f0 = x.f0) (fun i k => api_Grade_39_at_26.l0 k l (l.length : Int) i x.f0 x.f1)
    (Ev.step (fun k => api_Grade_39_at_26.l0.eq_2 ..) (evn (by omega) (Ev.now _)))
    (fun i h0 h1 q => Ev.step (fun k => api_Grade_39_at_26.l0.eq_2 ..) (evp h1 (evp h0 (evp h1 (evb (a := true) (evc (fun _ => rfl) (by unfold spilelaw16_DensityKeeps_2.f; rw [q]; simp)) (evp rfl (Ev.now _)))))))
    (fun i h0 h1 q r hr => by
      have hs := w64_succ h0 h1 hl
      refine Ev.step (fun k => api_Grade_39_at_26.l0.eq_2 ..) ?_
      rw [hs]
      exact evp h1 (evp h0 (evp h1 (evb (a := false) (evc (fun _ => rfl) (by unfold spilelaw16_DensityKeeps_2.f; simpa using q)) (evn (by decide) hr))))) 0 (by omega) (by omega)
  have r1 : Ev (fun k => api_Grade_39_at_26.f k l x.f0 x.f1) r := r1
  rcases r2 with ⟨h0, _, h1, h2, _⟩ | ⟨h0, h1⟩
  · exact ⟨fun _ => evb r1 (evr (decide_eq_true h0)), fun h => absurd ⟨_, rd_mem30 h0 h1, h2⟩ h⟩
  · refine ⟨fun h => ?_, fun _ => evb r1 (evr (decide_eq_false (by omega)))⟩
    obtain ⟨y, hy, e⟩ := h
    obtain ⟨i, i0, i1, i2⟩ := rd_of_mem30 hy
    exact absurd (show (rd_T30 l i).f0 = x.f0 by rw [i2]; exact e) (h1 i i0 i1)
theorem equal_self (l : List S30) (hl : (l.length : Int) ≤ 9223372036854775807) : Ev (fun k => api_Grade_23.f k l l) true := by
  refine evp rfl ?_
  refine count_up 0 (l.length : Int) (fun i => Ev (fun k => api_Grade_23.l0 k l l (l.length : Int) i) true) ?_ ?_ 0 (by omega) (by omega)
  · exact Ev.step (fun k => api_Grade_23.l0.eq_2 ..) (evn (by omega) (Ev.now _))
  · intro i h0 h1 ih
    have hs := w64_succ h0 h1 hl
    refine Ev.step (fun k => api_Grade_23.l0.eq_2 ..) ?_
    rw [hs]
    exact evp h1 (evp h0 (evp h1 (evp h1 (evn (by simp) ih))))
def mgd : Nat → List S30 → List S30 → List S30
  | 0, _, _ => []
  | _ + 1, [], [] => []
  | n + 1, x :: l, [] => x :: mgd n l []
  | n + 1, [], y :: m => y :: mgd n [] m
  | n + 1, x :: l, y :: m => if x.f0 < y.f0 then x :: mgd n l (y :: m) else if x.f0 = y.f0 then mgd n l (y :: m) else y :: mgd n (x :: l) m
def mgr : Nat → List S30 → List S30 → List S30
  | 0, _, _ => []
  | _ + 1, _, [] => []
  | n + 1, [], y :: m => y :: mgr n [] m
  | n + 1, x :: l, y :: m => if x.f0 < y.f0 then x :: mgr n l (y :: m) else if x.f0 = y.f0 then y :: mgr n l m else y :: mgr n (x :: l) m
def Asc (l : List S30) : Prop := l.Pairwise (fun x y => x.f0 < y.f0)
def Cover (l m : List S30) : Prop := ∀ x ∈ l, ∃ y ∈ m, x.f0 ≤ y.f0
theorem mgr_nil (n : Nat) (l : List S30) : mgr n l [] = [] := by cases n <;> rfl
theorem mgr_more : ∀ (n k : Nat) (l m : List S30), l.length + m.length < n → mgr (n + k) l m = mgr n l m
  | 0, _, _, _, h => absurd h (Nat.not_lt_zero _)
  | n + 1, k, l, [], h => by rw [mgr_nil, mgr_nil]
  | n + 1, k, [], y :: m, h => by
    rw [show n + 1 + k = n + k + 1 from by omega]
    simp only [mgr]
    rw [mgr_more n k [] m (by simp at h ⊢; omega)]
  | n + 1, k, x :: l, y :: m, h => by
    rw [show n + 1 + k = n + k + 1 from by omega]
    simp only [mgr]
    rw [mgr_more n k l (y :: m) (by simp at h ⊢; omega), mgr_more n k l m (by simp at h ⊢; omega), mgr_more n k (x :: l) m (by simp at h ⊢; omega)]
theorem asc_tail {x : S30} {l : List S30} (h : Asc (x :: l)) : Asc l := (List.pairwise_cons.1 h).2
theorem asc_head {x : S30} {l : List S30} (h : Asc (x :: l)) : ∀ z ∈ l, x.f0 < z.f0 := (List.pairwise_cons.1 h).1
theorem mgd_eq : ∀ (n : Nat) (l m : List S30), l.length + m.length < n → Asc l → Cover l m → mgd n l m = mgr n l m
  | 0, _, _, h, _, _ => absurd h (Nat.not_lt_zero _)
  | n + 1, [], [], _, _, _ => rfl
  | n + 1, x :: l, [], _, _, hc => by
    obtain ⟨y, hy, _⟩ := hc x (List.mem_cons_self ..)
    cases hy
  | n + 1, [], y :: m, h, ha, hc => by
    simp only [mgd, mgr]
    rw [mgd_eq n [] m (by simp at h ⊢; omega) ha (fun x hx => by cases hx)]
  | n + 1, x :: l, y :: m, h, ha, hc => by
    have hl : l.length + (y :: m).length < n := by simp at h ⊢; omega
    have cl : Cover l (y :: m) := fun z hz => hc z (List.mem_cons_of_mem _ hz)
    have hn0 : 0 < n := by simp at h; omega
    simp only [mgd, mgr]
    by_cases c1 : x.f0 < y.f0
    · rw [if_pos c1, if_pos c1, mgd_eq n l (y :: m) hl (asc_tail ha) cl]
    · rw [if_neg c1, if_neg c1]
      by_cases c2 : x.f0 = y.f0
      · rw [if_pos c2, if_pos c2, mgd_eq n l (y :: m) hl (asc_tail ha) cl]
        obtain ⟨n, rfl⟩ : ∃ n', n = n' + 1 := ⟨n - 1, by omega⟩
        cases l with
        | nil =>
          simp only [mgr]
          rw [mgr_more n 1 [] m (by simp at h ⊢; omega)]
        | cons z l =>
          have hz := asc_head ha z (List.mem_cons_self ..)
          have e1 : ¬ z.f0 < y.f0 := by omega
          have e2 : ¬ z.f0 = y.f0 := by omega
          rw [show mgr (n + 1) (z :: l) (y :: m) = y :: mgr n (z :: l) m from by simp only [mgr]; rw [if_neg e1, if_neg e2]]
          rw [mgr_more n 1 (z :: l) m (by simp at h ⊢; omega)]
      · rw [if_neg c2, if_neg c2, mgd_eq n (x :: l) m (by simp at h ⊢; omega) ha (fun z hz => ?_)]
        obtain ⟨y2, hy2, e⟩ := hc z hz
        have hxz : x.f0 ≤ z.f0 := by
          rcases List.mem_cons.1 hz with rfl | hz
          · exact Int.le_refl _
          · exact Int.le_of_lt (asc_head ha z hz)
        rcases List.mem_cons.1 hy2 with rfl | hy2
        · omega
        · exact ⟨y2, hy2, e⟩
theorem mgr_self : ∀ (n : Nat) (l : List S30), l.length + l.length < n → mgr n l l = l
  | 0, _, h => absurd h (Nat.not_lt_zero _)
  | n + 1, [], _ => rfl
  | n + 1, x :: l, h => by
    simp only [mgr]
    rw [if_neg (by omega), if_pos trivial, mgr_self n l (by simp at h ⊢; omega)]
theorem mgr_has : ∀ (n : Nat) (l m : List S30), l.length + m.length < n → ∀ y ∈ m, y ∈ mgr n l m
  | 0, _, _, h => absurd h (Nat.not_lt_zero _)
  | n + 1, _, [], _ => fun y hy => by cases hy
  | n + 1, [], y :: m, h => fun z hz => by
    simp only [mgr]
    rcases List.mem_cons.1 hz with rfl | hz
    · exact List.mem_cons_self ..
    · exact List.mem_cons_of_mem _ (mgr_has n [] m (by simp at h ⊢; omega) z hz)
  | n + 1, x :: l, y :: m, h => fun z hz => by
    simp only [mgr]
    split
    · exact List.mem_cons_of_mem _ (mgr_has n l (y :: m) (by simp at h ⊢; omega) z hz)
    · split
      · rcases List.mem_cons.1 hz with rfl | hz
        · exact List.mem_cons_self ..
        · exact List.mem_cons_of_mem _ (mgr_has n l m (by simp at h ⊢; omega) z hz)
      · rcases List.mem_cons.1 hz with rfl | hz
        · exact List.mem_cons_self ..
        · exact List.mem_cons_of_mem _ (mgr_has n (x :: l) m (by simp at h ⊢; omega) z hz)
theorem mgr_strength : ∀ (n : Nat) (l m : List S30), l.length + m.length < n → Asc l → Cover l m → ∀ x ∈ l, ∃ y ∈ mgr n l m, y.f0 = x.f0
  | 0, _, _, h, _, _ => absurd h (Nat.not_lt_zero _)
  | n + 1, [], _, _, _, _ => fun x hx => by cases hx
  | n + 1, x :: l, [], _, _, hc => fun z hz => by
    obtain ⟨y, hy, _⟩ := hc z hz
    cases hy
  | n + 1, x :: l, y :: m, h, ha, hc => fun z hz => by
    have cm : x.f0 > y.f0 → Cover (x :: l) m := fun c z hz => by
      obtain ⟨y2, hy2, e⟩ := hc z hz
      have hxz : x.f0 ≤ z.f0 := by
        rcases List.mem_cons.1 hz with rfl | hz
        · exact Int.le_refl _
        · exact Int.le_of_lt (asc_head ha z hz)
      rcases List.mem_cons.1 hy2 with rfl | hy2
      · omega
      · exact ⟨y2, hy2, e⟩
    simp only [mgr]
    split
    · rcases List.mem_cons.1 hz with rfl | hz
      · exact ⟨z, List.mem_cons_self .., rfl⟩
      · obtain ⟨u, hu, e⟩ := mgr_strength n l (y :: m) (by simp at h ⊢; omega) (asc_tail ha) (fun z hz => hc z (List.mem_cons_of_mem _ hz)) z hz
        exact ⟨u, List.mem_cons_of_mem _ hu, e⟩
    · split
      · rename_i c1 c2
        rcases List.mem_cons.1 hz with rfl | hz
        · exact ⟨y, List.mem_cons_self .., c2.symm⟩
        · obtain ⟨u, hu, e⟩ := mgr_strength n l m (by simp at h ⊢; omega) (asc_tail ha) (fun z hz => by
            obtain ⟨y2, hy2, e⟩ := hc z (List.mem_cons_of_mem _ hz)
            have := asc_head ha z hz
            rcases List.mem_cons.1 hy2 with rfl | hy2
            · omega
            · exact ⟨y2, hy2, e⟩) z hz
          exact ⟨u, List.mem_cons_of_mem _ hu, e⟩
      · rename_i c1 c2
        obtain ⟨u, hu, e⟩ := mgr_strength n (x :: l) m (by simp at h ⊢; omega) ha (cm (by omega)) z hz
        exact ⟨u, List.mem_cons_of_mem _ hu, e⟩
theorem mgr_from : ∀ (n : Nat) (l m : List S30), l.length + m.length < n → Asc l → Asc m → ∀ z ∈ mgr n l m, z ∈ m ∨ (z ∈ l ∧ ∀ y ∈ m, y.f0 ≠ z.f0)
  | 0, _, _, h, _, _ => absurd h (Nat.not_lt_zero _)
  | n + 1, l, [], _, _, _ => fun z hz => by rw [mgr_nil] at hz; cases hz
  | n + 1, [], y :: m, h, ha, hm => fun z hz => by
    simp only [mgr] at hz
    rcases List.mem_cons.1 hz with rfl | hz
    · exact .inl (List.mem_cons_self ..)
    · rcases mgr_from n [] m (by simp at h ⊢; omega) ha (asc_tail hm) z hz with q | ⟨q, _⟩
      · exact .inl (List.mem_cons_of_mem _ q)
      · cases q
  | n + 1, x :: l, y :: m, h, ha, hm => fun z hz => by
    simp only [mgr] at hz
    split at hz
    · rename_i c1
      rcases List.mem_cons.1 hz with rfl | hz
      · refine .inr ⟨List.mem_cons_self .., fun u hu => ?_⟩
        rcases List.mem_cons.1 hu with rfl | hu
        · omega
        · have := asc_head hm u hu
          omega
      · rcases mgr_from n l (y :: m) (by simp at h ⊢; omega) (asc_tail ha) hm z hz with q | ⟨q, q2⟩
        · exact .inl q
        · exact .inr ⟨List.mem_cons_of_mem _ q, q2⟩
    · split at hz
      · rename_i c1 c2
        rcases List.mem_cons.1 hz with rfl | hz
        · exact .inl (List.mem_cons_self ..)
        · rcases mgr_from n l m (by simp at h ⊢; omega) (asc_tail ha) (asc_tail hm) z hz with q | ⟨q, q2⟩
          · exact .inl (List.mem_cons_of_mem _ q)
          · refine .inr ⟨List.mem_cons_of_mem _ q, fun u hu => ?_⟩
            rcases List.mem_cons.1 hu with rfl | hu
            · have := asc_head ha z q
              omega
            · exact q2 u hu
      · rename_i c1 c2
        rcases List.mem_cons.1 hz with rfl | hz
        · exact .inl (List.mem_cons_self ..)
        · rcases mgr_from n (x :: l) m (by simp at h ⊢; omega) ha (asc_tail hm) z hz with q | ⟨q, q2⟩
          · exact .inl (List.mem_cons_of_mem _ q)
          · refine .inr ⟨q, fun u hu => ?_⟩
            rcases List.mem_cons.1 hu with rfl | hu
            · rcases List.mem_cons.1 q with rfl | q
              · omega
              · have := asc_head ha z q
                omega
            · exact q2 u hu
theorem mgr_len : ∀ (n : Nat) (l m : List S30), (mgr n l m).length ≤ l.length + m.length
  | 0, _, _ => Nat.zero_le _
  | n + 1, l, [] => by rw [mgr_nil]; exact Nat.zero_le _
  | n + 1, [], y :: m => by
    have := mgr_len n [] m
    simp only [mgr, List.length_cons] at this ⊢
    omega
  | n + 1, x :: l, y :: m => by
    simp only [mgr]
    have a := mgr_len n l (y :: m)
    have b := mgr_len n l m
    have c := mgr_len n (x :: l) m
    simp only [List.length_cons] at a b c ⊢
    split
    · simp only [List.length_cons]; omega
    · split <;> (simp only [List.length_cons]; omega)
theorem good_asc {l : List S30} (g : Good l) : Asc l := by
  unfold Asc
  rw [List.pairwise_iff_getElem]
  intro i j hi hj hij
  have := good_mono g (a := (i : Int)) (b := (j : Int)) (by omega) (by omega) (by omega)
  have e : ∀ k (hk : k < l.length), rd_T30 l (k : Int) = l[k] := fun k hk => by
    unfold rd_T30
    rw [List.getD_eq_getElem?_getD, Int.toNat_natCast, List.getElem?_eq_getElem hk]
    rfl
  rwa [e i hi, e j hj] at this
theorem good_cover {l m : List S30} (g : Good l) (h : Good m) : Cover l m := fun x hx => by
  obtain ⟨i, i0, i1, rfl⟩ := rd_of_mem30 hx
  refine ⟨rd_T30 m ((m.length : Int) - 1), rd_mem30 (by have := h.1; omega) (by omega), ?_⟩
  rw [h.2.2.2.2]
  exact (good_row g i0 i1).2.1
def Fin (f : Nat → List S30 → Option (Int × Int)) (out : List S30) (r : List S30 × Int) : Prop := ∃ c, Ev (fun k => f k out) c ∧ r = if c.2 = 0 then (out, 0) else ([], c.2)
theorem rd_head (x : S30) (l : List S30) : rd_T30 (x :: l) 0 = x := rfl
theorem mrg_ev : ∀ (n : Nat) (l m out : List S30) (r : List S30 × Int), l.length + m.length < n → out.length + (l.length + m.length) < 8796093022208 → Fin density_Check.f (out ++ mgd n l m) r → Ev (fun k => density_Merge.l0 k l m out) r
  | 0, _, _, _, _, h, _, _ => absurd h (Nat.not_lt_zero _)
  | n + 1, [], [], out, r, h, ho, ⟨c, hc, hr⟩ => by
    rw [show out ++ mgd (n + 1) [] [] = out from List.append_nil _] at hc hr
    subst hr
    refine Ev.step (fun k => density_Merge.l0.eq_2 ..) (evn (by first | (simp; done) | (simp only [List.length_cons, List.length_nil]; omega)) (Ev.step (fun k => density_Merge.j2.eq_2 ..) (evn (by first | (simp; done) | (simp only [List.length_cons, List.length_nil]; omega)) (evb hc ?_))))
    by_cases e : c.2 = 0
    · rw [show (if c.2 = 0 then (out, (0 : Int)) else ([], c.2)) = (out, 0) from if_pos e]; exact evp e (Ev.now _)
    · rw [show (if c.2 = 0 then (out, (0 : Int)) else ([], c.2)) = ([], c.2) from if_neg e]; exact evn e (Ev.now _)
  | n + 1, x :: l, [], out, r, h, ho, hf => by
    have ih := mrg_ev n l [] (out ++ [x]) r (by simp at h ⊢; omega) (by simp at ho ⊢; omega) (by rw [List.append_assoc]; exact hf)
    refine Ev.step (fun k => density_Merge.l0.eq_2 ..) (evp (by first | (simp; done) | (simp only [List.length_cons, List.length_nil]; omega)) (Ev.step (fun k => density_Merge.j2.eq_2 ..) (evp rfl (evp rfl (Ev.step (fun k => density_Merge.j3.eq_2 ..) (evp rfl (evp (by first | (simp; done) | (simp only [List.length_cons, List.length_nil]; omega)) (evp (by simp at ho ⊢; omega) (evp (by first | (simp; done) | (simp only [List.length_cons, List.length_nil]; omega)) ih)))))))))
  | n + 1, [], y :: m, out, r, h, ho, hf => by
    have ih := mrg_ev n [] m (out ++ [y]) r (by simp at h ⊢; omega) (by simp at ho ⊢; omega) (by rw [List.append_assoc]; exact hf)
    refine Ev.step (fun k => density_Merge.l0.eq_2 ..) (evn (by first | (simp; done) | (simp only [List.length_cons, List.length_nil]; omega)) (Ev.step (fun k => density_Merge.j2.eq_2 ..) (evp (by first | (simp; done) | (simp only [List.length_cons, List.length_nil]; omega)) (evn (by first | (simp; done) | (simp only [List.length_cons, List.length_nil]; omega)) (evn (by first | (simp; done) | (simp only [List.length_cons, List.length_nil]; omega)) (Ev.step (fun k => density_Merge.j3.eq_2 ..) (evn (by first | (simp; done) | (simp only [List.length_cons, List.length_nil]; omega)) (evn (by first | (simp; done) | (simp only [List.length_cons, List.length_nil]; omega)) (evp (by first | (simp; done) | (simp only [List.length_cons, List.length_nil]; omega)) (evp (by simp at ho ⊢; omega) (evp (by first | (simp; done) | (simp only [List.length_cons, List.length_nil]; omega)) ih)))))))))))
  | n + 1, x :: l, y :: m, out, r, h, ho, hf => by
    have st : ∀ b : Bool, b = decide (x.f0 < y.f0) → Ev (fun k => density_Merge.j3 k (x :: l) (y :: m) out b) r → Ev (fun k => density_Merge.l0 k (x :: l) (y :: m) out) r := fun b hb hj => by
      refine Ev.step (fun k => density_Merge.l0.eq_2 ..) (evp (by first | (simp; done) | (simp only [List.length_cons, List.length_nil]; omega)) (Ev.step (fun k => density_Merge.j2.eq_2 ..) (evp rfl (evn (by first | (simp; done) | (simp only [List.length_cons, List.length_nil]; omega)) (evp (by first | (simp; done) | (simp only [List.length_cons, List.length_nil]; omega)) (evp (by first | (simp; done) | (simp only [List.length_cons, List.length_nil]; omega)) (evp (by first | (simp; done) | (simp only [List.length_cons, List.length_nil]; omega)) ?_)))))))
      rw [rd_head, rd_head, ← hb]
      exact hj
    simp only [mgd] at hf
    by_cases c1 : x.f0 < y.f0
    · rw [if_pos c1] at hf
      have ih := mrg_ev n l (y :: m) (out ++ [x]) r (by simp at h ⊢; omega) (by simp at ho ⊢; omega) (by rw [List.append_assoc]; exact hf)
      exact st true (decide_eq_true c1).symm (Ev.step (fun k => density_Merge.j3.eq_2 ..) (evp rfl (evp (by first | (simp; done) | (simp only [List.length_cons, List.length_nil]; omega)) (evp (by simp at ho ⊢; omega) (evp (by first | (simp; done) | (simp only [List.length_cons, List.length_nil]; omega)) ih)))))
    · rw [if_neg c1] at hf
      refine st false (decide_eq_false c1).symm (Ev.step (fun k => density_Merge.j3.eq_2 ..) (evn (by decide) (evp (by first | (simp; done) | (simp only [List.length_cons, List.length_nil]; omega)) (evp (by first | (simp; done) | (simp only [List.length_cons, List.length_nil]; omega)) (evp (by first | (simp; done) | (simp only [List.length_cons, List.length_nil]; omega)) ?_)))))
      by_cases c2 : x.f0 = y.f0
      · rw [if_pos c2] at hf
        exact evp c2 (evp (by first | (simp; done) | (simp only [List.length_cons, List.length_nil]; omega)) (mrg_ev n l (y :: m) out r (by simp at h ⊢; omega) (by simp at ho ⊢; omega) hf))
      · rw [if_neg c2] at hf
        have ih := mrg_ev n (x :: l) m (out ++ [y]) r (by simp at h ⊢; omega) (by simp at ho ⊢; omega) (by rw [List.append_assoc]; exact hf)
        exact evn c2 (evp (by simp at ho ⊢; omega) (evp (by first | (simp; done) | (simp only [List.length_cons, List.length_nil]; omega)) ih))
theorem drop_cons_len {l t : List S30} {x : S30} {i : Nat} (h : l.drop i = x :: t) : i < l.length ∧ l.drop (i + 1) = t ∧ rd_T30 l (i : Int) = x := by
  have h1 : i < l.length := by
    rcases Nat.lt_or_ge i l.length with c | c
    · exact c
    · rw [List.drop_eq_nil_of_le c] at h; cases h
  have h2 := drop_rd (l := l) (i := (i : Int)) (by omega) (by omega)
  rw [Int.toNat_natCast, h] at h2
  injection h2 with e1 e2
  exact ⟨h1, by rw [e2]; congr 1, e1.symm⟩
theorem drop_nil_len {l : List S30} {i : Nat} (h : l.drop i = []) : l.length ≤ i := by
  rcases Nat.lt_or_ge i l.length with c | c
  · have h2 := drop_rd (l := l) (i := (i : Int)) (by omega) (by omega)
    rw [Int.toNat_natCast, h] at h2; cases h2
  · exact c
/-- The reference's rounds: at l0 behind each row of m, at l1 inside. -/
theorem ref_mrg_ev (L M : List S30) (hL : (L.length : Int) ≤ 128) (hM : (M.length : Int) ≤ 128) : ∀ (n : Nat) (l m out : List S30) (i j : Nat) (r : List S30 × Int), L.drop i = l → M.drop j = m → l.length + m.length < n → out.length + (l.length + m.length) < 8796093022208 →
    i ≤ L.length → j ≤ M.length → Fin spileref16_Check.f (out ++ mgr n l m) r → (m ≠ [] → Ev (fun k => spileref16_Merge.l1 k L M out i j) r) ∧ Ev (fun k => spileref16_Merge.l0 k L M out i j) r
  | 0, _, _, _, _, _, _, _, _, h, _, _, _, _ => absurd h (Nat.not_lt_zero _)
  | n + 1, l, [], out, i, j, r, hl, hm, h, ho, hi, hj, ⟨c, hc, hr⟩ => by
    refine ⟨fun q => absurd rfl q, ?_⟩
    rw [mgr_nil, List.append_nil] at hc hr
    subst hr
    have := drop_nil_len hm
    refine Ev.step (fun k => spileref16_Merge.l0.eq_2 ..) (evn (by omega) (evb hc ?_))
    by_cases e : c.2 = 0
    · rw [show (if c.2 = 0 then (out, (0 : Int)) else ([], c.2)) = (out, 0) from if_pos e]; exact evp e (Ev.now _)
    · rw [show (if c.2 = 0 then (out, (0 : Int)) else ([], c.2)) = ([], c.2) from if_neg e]; exact evn e (Ev.now _)
  | n + 1, [], y :: m, out, i, j, r, hl, hm, h, ho, hi, hj, hf => by
    have a := drop_nil_len hl
    obtain ⟨b1, b2, b3⟩ := drop_cons_len hm
    have ih := (ref_mrg_ev L M hL hM n [] m (out ++ [y]) i (j + 1) r hl b2 (by simp at h ⊢; omega) (by simp at ho ⊢; omega) hi b1 (by rw [List.append_assoc]; exact hf)).2
    have hs := w64_succ (i := (j : Int)) (n := (M.length : Int)) (by omega) (by omega) (by omega)
    have k1 : Ev (fun k => spileref16_Merge.l1 k L M out i j) r := by
      refine Ev.step (fun k => spileref16_Merge.l1.eq_2 ..) (evn (by omega) (evp (by omega) (evp (by omega) (evp (by simp at ho; omega) ?_))))
      rw [hs, b3]
      exact ih
    exact ⟨fun _ => k1, Ev.step (fun k => spileref16_Merge.l0.eq_2 ..) (evp (by omega) k1)⟩
  | n + 1, x :: l, y :: m, out, i, j, r, hl, hm, h, ho, hi, hj, hf => by
    obtain ⟨a1, a2, a3⟩ := drop_cons_len hl
    obtain ⟨b1, b2, b3⟩ := drop_cons_len hm
    have hs := w64_succ (i := (j : Int)) (n := (M.length : Int)) (by omega) (by omega) (by omega)
    have hs2 := w64_succ (i := (i : Int)) (n := (L.length : Int)) (by omega) (by omega) (by omega)
    simp only [mgr] at hf
    have k1 : Ev (fun k => spileref16_Merge.l1 k L M out i j) r := by
      refine Ev.step (fun k => spileref16_Merge.l1.eq_2 ..) (evp (by omega) (evp (by omega) (evp (by omega) (evp (by omega) ?_))))
      rw [hs, hs2, a3, b3]
      by_cases c1 : x.f0 < y.f0
      · rw [if_pos c1] at hf
        have ih := (ref_mrg_ev L M hL hM n l (y :: m) (out ++ [x]) (i + 1) j r a2 hm (by simp at h ⊢; omega) (by simp at ho ⊢; omega) a1 hj (by rw [List.append_assoc]; exact hf)).1 (by simp)
        exact evp c1 (evp (by simp at ho; omega) ih)
      · rw [if_neg c1] at hf
        by_cases c2 : x.f0 = y.f0
        · rw [if_pos c2] at hf
          have ih := (ref_mrg_ev L M hL hM n l m (out ++ [y]) (i + 1) (j + 1) r a2 b2 (by simp at h ⊢; omega) (by simp at ho ⊢; omega) a1 b1 (by rw [List.append_assoc]; exact hf)).2
          exact evn c1 (evp c2 (evp (by simp at ho; omega) ih))
        · rw [if_neg c2] at hf
          have ih := (ref_mrg_ev L M hL hM n (x :: l) m (out ++ [y]) i (j + 1) r hl b2 (by simp at h ⊢; omega) (by simp at ho ⊢; omega) hi b1 (by rw [List.append_assoc]; exact hf)).2
          exact evn c1 (evn c2 (evp (by simp at ho; omega) ih))
    exact ⟨fun _ => k1, Ev.step (fun k => spileref16_Merge.l0.eq_2 ..) (evp (by omega) k1)⟩
/-- What merging answers, with both. -/
theorem merge_both (l m : List S30) (hl : (l.length : Int) ≤ 9223372036854775807) (hm : (m.length : Int) ≤ 9223372036854775807) : ∃ r, Ev (fun k => density_Merge.f k l m) r ∧ Ev (fun k => spileref16_Merge.f k l m) r ∧
    (r.1.length : Int) ≤ 256 ∧ ((r.2 ≠ 0 ∧ r.1 = [] ∧ (Good l → Good m → ¬ Good (mgr (l.length + m.length + 1) l m))) ∨ (r.2 = 0 ∧ Good l ∧ Good m ∧ r.1 = mgr (l.length + m.length + 1) l m ∧ Good r.1)) := by
  have g1 := right_ev l hl
  have g2 := ref_right_ev l hl
  have g3 := right_ev m hm
  have g4 := ref_right_ev m hm
  by_cases g : Good l
  · by_cases h : Good m
    · have e := mgd_eq (l.length + m.length + 1) l m (by omega) (good_asc g) (good_cover g h)
      have hn := mgr_len (l.length + m.length + 1) l m
      have b1 := g.2.1
      have b2 := h.2.1
      obtain ⟨c, c1, c2, c3, _⟩ := check_both (mgr (l.length + m.length + 1) l m) (by omega)
      have f1 := mrg_ev (l.length + m.length + 1) l m [] (if c.2 = 0 then (mgr (l.length + m.length + 1) l m, 0) else ([], c.2)) (by omega) (by simp; omega) ⟨c, by rw [List.nil_append, e]; exact c1, by rw [List.nil_append, e]⟩
      have f2 := (ref_mrg_ev l m b1 b2 (l.length + m.length + 1) l m [] 0 0 (if c.2 = 0 then (mgr (l.length + m.length + 1) l m, 0) else ([], c.2)) rfl rfl (by omega) (by simp; omega) (by omega) (by omega) ⟨c, by rw [List.nil_append]; exact c2, by rw [List.nil_append]⟩).2
      refine ⟨_, evb (g1.1 g) (evp rfl (evb (g3.1 h) (Ev.step (fun k => density_Merge.j0.eq_2 ..) (evn (by simp) f1)))), evb (g2.1 g) (evp rfl (evb (g4.1 h) (Ev.step (fun k => spileref16_Merge.j0.eq_2 ..) (evn (by simp) f2)))), ?_, ?_⟩
      · split
        · show ((mgr (l.length + m.length + 1) l m).length : Int) ≤ 256
          omega
        · simp
      · by_cases e0 : c.2 = 0
        · rw [if_pos e0]
          exact .inr ⟨rfl, g, h, rfl, c3.1 e0⟩
        · rw [if_neg e0]
          exact .inl ⟨e0, rfl, fun _ _ q => e0 (c3.2 q)⟩
    · exact ⟨([], 1), evb (g1.1 g) (evp rfl (evb (g3.2 h) (Ev.step (fun k => density_Merge.j0.eq_2 ..) (evp rfl (Ev.now _))))), evb (g2.1 g) (evp rfl (evb (g4.2 h) (Ev.step (fun k => spileref16_Merge.j0.eq_2 ..) (evp rfl (Ev.now _))))), by simp, .inl ⟨by decide, rfl, fun _ q => absurd q h⟩⟩
  · exact ⟨([], 1), evb (g1.2 g) (evn (by decide) (Ev.step (fun k => density_Merge.j0.eq_2 ..) (evp rfl (Ev.now _)))), evb (g2.2 g) (evn (by decide) (Ev.step (fun k => spileref16_Merge.j0.eq_2 ..) (evp rfl (Ev.now _)))), by simp, .inl ⟨by decide, rfl, fun q => absurd q g⟩⟩
end Go.Proofs.YtoofoicocfnfoaaDoor.PL
namespace Go.Proofs.YtoofoicocfnfoaaDoor.Pure
open Go Go.RowKit Go.Proofs.YtoofoicocfnfoaaDoorW.PrintWords Go.Proofs.YtoofoicocfnfoaaDoorW.PrintLast Go.Proofs.YtoofoicocfnfoaaDoorW.PrintMore Go.Proofs.YtoofoicocfnfoaaDoor.Pr Go.Proofs.YtoofoicocfnfoaaDoor.Opn Go.Proofs.YtoofoicocfnfoaaDoor.X Go.Proofs.YtoofoicocfnfoaaDoor.PL
theorem DensityKeeps : densityKeepsPure := by
  intro l m hl hm
  have hl2 := len_le hl.1
  have hm2 := len_le hm.1
  obtain ⟨fw, hf⟩ := few_ev l
  obtain ⟨fm, hfm⟩ := few_ev m
  have key : Ev (fun k => spilelaw16_DensityKeeps.f k l m) true := by
    have hj : Ev (fun k => spilelaw16_DensityKeeps.j0 k l m true) true := Ev.step (fun k => spilelaw16_DensityKeeps.j0.eq_2 ..) (evp rfl (Ev.now _))
    refine evb (a := true) (evc (fun _ => rfl) rfl) (evp rfl (evb (a := fw) (evc (fun _ => rfl) hf) ?_))
    by_cases hw : fw = true
    case neg => exact evn hw hj
    refine evp hw (evb (a := fm) (evc (fun _ => rfl) hfm) ?_)
    by_cases hw2 : fm = true
    case neg =>
      have : fm = false := by cases fm with | false => rfl | true => exact absurd rfl hw2
      rw [this]
      exact hj
    rw [hw2]
    have hj1 : Ev (fun k => spilelaw16_DensityKeeps.j1 k l m) true := by
      obtain ⟨r, r1, _, r3, r4⟩ := merge_both l m hl2 hm2
      refine Ev.step (fun k => spilelaw16_DensityKeeps.j1.eq_2 ..) (evb r1 ?_)
      rcases r4 with ⟨a, b, _⟩ | ⟨a, g, h, b, ga⟩
      · exact evn a (evr (by rw [b]; rfl))
      refine evp a ?_
      obtain ⟨A, hA⟩ : ∃ A, A = r.1 := ⟨_, rfl⟩
      rw [← hA] at b ga r3 ⊢
      obtain ⟨c, c1, _, c3, _⟩ := check_both A (by omega)
      refine evb c1 (evp (c3.2 ga) ?_)
      have hm3 := mgr_has (l.length + m.length + 1) l m (by omega)
      have hm4 := mgr_strength (l.length + m.length + 1) l m (by omega) (good_asc g) (good_cover g h)
      have hm5 := mgr_from (l.length + m.length + 1) l m (by omega) (good_asc g) (good_asc h)
      rw [← b] at hm3 hm4 hm5
      have L2 : Ev (fun k => spilelaw16_DensityKeeps.l2 k l m A (A.length : Int) 0) true := by
        refine count_up 0 (A.length : Int) (fun i => Ev (fun k => spilelaw16_DensityKeeps.l2 k l m A (A.length : Int) i) true) ?_ ?_ 0 (by omega) (by omega)
        · exact Ev.step (fun k => spilelaw16_DensityKeeps.l2.eq_2 ..) (evn (by omega) (Ev.now _))
        · intro i h0 h1 ih
          have hs := w64_succ h0 h1 (by omega)
          refine Ev.step (fun k => spilelaw16_DensityKeeps.l2.eq_2 ..) ?_
          rw [hs]
          refine evp h1 (evp h0 (evp h1 ?_))
          rcases hm5 _ (rd_mem30 h0 h1) with q | ⟨q, q2⟩
          · exact evb ((has_ev m hm2 (rd_T30 A i)).1 q) (evp rfl ih)
          · refine evb ((has_ev m hm2 (rd_T30 A i)).2 (fun q3 => q2 _ q3 rfl)) (evn (by decide) (evb ((has_ev l hl2 (rd_T30 A i)).1 q) (evp rfl (evb ((strength_ev26 m hm2 (rd_T30 A i)).2 (fun ⟨y, hy, e⟩ => q2 y hy e)) (evn (by decide) ih)))))
      have L1 : Ev (fun k => spilelaw16_DensityKeeps.l1 k l m A l (l.length : Int) 0) true := by
        refine count_up 0 (l.length : Int) (fun i => Ev (fun k => spilelaw16_DensityKeeps.l1 k l m A l (l.length : Int) i) true) ?_ ?_ 0 (by omega) (by omega)
        · exact Ev.step (fun k => spilelaw16_DensityKeeps.l1.eq_2 ..) (evn (by omega) L2)
        · intro i h0 h1 ih
          have hs := w64_succ h0 h1 (by omega)
          refine Ev.step (fun k => spilelaw16_DensityKeeps.l1.eq_2 ..) ?_
          rw [hs]
          exact evp h1 (evp h0 (evp h1 (evb ((strength_ev25 A (by omega) (rd_T30 l i)).1 (hm4 _ (rd_mem30 h0 h1))) (evp rfl ih))))
      refine count_up 0 (m.length : Int) (fun i => Ev (fun k => spilelaw16_DensityKeeps.l0 k l m A m (m.length : Int) i) true) ?_ ?_ 0 (by omega) (by omega)
      · exact Ev.step (fun k => spilelaw16_DensityKeeps.l0.eq_2 ..) (evn (by omega) L1)
      · intro i h0 h1 ih
        have hs := w64_succ h0 h1 (by omega)
        refine Ev.step (fun k => spilelaw16_DensityKeeps.l0.eq_2 ..) ?_
        rw [hs]
        exact evp h1 (evp h0 (evp h1 (evb ((has_ev A (by omega) (rd_T30 m i)).1 (hm3 _ (rd_mem30 h0 h1))) (evp rfl ih))))
    refine Ev.step (fun k => spilelaw16_DensityKeeps.j0.eq_2 ..) (evn (by decide) ?_)
    obtain ⟨c, c1, _, c3, _⟩ := check_both l hl2
    refine evb c1 ?_
    by_cases hc : c.2 = 0
    case neg => exact evn hc hj1
    refine evp hc ?_
    have g := c3.1 hc
    obtain ⟨r, r1, _, r3, r4⟩ := merge_both l l hl2 hl2
    have es := mgr_self (l.length + l.length + 1) l (by omega)
    refine evb r1 ?_
    rcases r4 with ⟨a, b, q⟩ | ⟨a, _, _, b, ga⟩
    · exact absurd (by rw [es]; exact g) (q g g)
    · rw [es] at b
      refine evp a ?_
      rw [b]
      exact evb (equal_self l hl2) (evp rfl hj1)
  obtain ⟨K, hK⟩ := key
  exact ⟨K, hK K (Nat.le_refl _)⟩
end Go.Proofs.YtoofoicocfnfoaaDoor.Pure
namespace Go.Proofs.YtoofoicocfnfoaaDoor.densityKeeps
open Go Go.ChangeShapes Go.WideShapes Go.ChangeAt Go.RowKit
open Go.ChangeMaps (open_string shut_string)
open Go.Proofs.YtoofoicocfnfoaaDoorW.PrintWords Go.Proofs.YtoofoicocfnfoaaDoor.O Go.Proofs.YtoofoicocfnfoaaDoor.Opn Go.Proofs.YtoofoicocfnfoaaDoor.Pr Go.Proofs.YtoofoicocfnfoaaDoor.X
theorem own : ownKnob Tryd.prog.godebug = none := by kernel_rfl
theorem laidOut : laidOutB Tryd.prog = true := by kernel_rfl
abbrev laidL : List (String × DataW Unit) := [("math/bits.deBruijn32tab", Rows.laid_math_bits_deBruijn32tab), ("math/bits.deBruijn64tab", Rows.laid_math_bits_deBruijn64tab), ("internal/strconv.uint64pow10", Rows.laid_internal_strconv_uint64pow10)]
set_option maxRecDepth 100000 in
theorem lifted (os : Os) (started : os.Started) (H : Type) (enc : TypeId × Value → H)
    (hwit : ∀ args : Array Value, laidMetH Tryd.prog laidL ((World.doorLaid Tryd.prog 400 os).forCall (fun _ _ => 0) ⟨#[], args, []⟩).memory) :
    ReturnsInHanded {} Tryd.checked os 7 .any (fun w args => (Rows.densityKeepsSpec.pre enc Tryd.prog Tryd.f7 [] false w args ∧ laidMetH Tryd.prog laidL w) ∧ sizedMet enc Tryd.prog Tryd.f7 (OpenSpec.ofChange Rows.densityKeepsSpec) false w args)
      (Rows.densityKeepsSpec.post enc Tryd.prog Tryd.f7 false true false false) := by
  refine returnsInHanded_of_change_and (C := Tryd.checked) (X := (fun w _ => laidMetH Tryd.prog laidL w)) (fun _ _ _ hh h => h.of_heap hh) own started (by kernel_rfl) Tryd.func7
    (ChangeSpec.witness_shaped (enc := enc) (C := Tryd.checked) (os := os) (X := (fun w _ => laidMetH Tryd.prog laidL w)) false (World.doorLaid Tryd.prog 400 os) #[.slice none 0 0, .slice none 0 0] 8 rfl (World.shaped_of_RefB (by kernel_rfl) (by kernel_rfl)) (by kernel_rfl) (by kernel_rfl) (by kernel_rfl) (hwit _)) ?_
  intro W base args ds gs before hval0 hW _ _ hL _
  have hval : ∀ (j : Nat) t v, Tryd.f7.params[j]? = some t → args[j]? = some v → Value.okWide Tryd.prog W .any base t v := hval0
  have hW' := hW
  obtain ⟨p, q, hA0, hV, rfl, hfz, hnd⟩ := hW
  have hA : DataW.TrodAll enc Tryd.prog W 0 (fun _ => true) true Tryd.f7.params.toList args.toList ds p := hA0
  rw [Tryd.params7] at hA hval
  obtain ⟨v0, vs0, d0, ds0, p0, q0, hargs, rfl, rfl, h0, r0⟩ := trodAll_cons hA
  obtain ⟨v1, vs1, d1, ds1, p1, q1, rfl, rfl, rfl, h1, r1⟩ := trodAll_cons r0
  obtain ⟨rfl, rfl, rfl⟩ := trodAll_nil r1
  obtain rfl : args = #[v0, v1] := by cases args; simp_all
  obtain ⟨rfl, rfl⟩ := trodVars_none hV
  obtain ⟨a0_, len0_, cap0_, rfl⟩ := okWide_slice Tryd.underlying22 (hval 0 22 v0 rfl rfl)
  have k0 := h0
  have lt0 : ∀ x ∈ p0, x.block < W.heap.size := by obtain ⟨m, hm⟩ := k0; exact DataW.trod_lt m _ _ _ hm
  obtain ⟨l0, K0, ok0⟩ : ∃ x, (Kd.slice 30 k30).K W x [.slice a0_ len0_ cap0_] ∧ (x.length ≤ maxLen ∧ ∀ x0_, x0_ ∈ x → ok30 x0_) := by
    obtain ⟨fuel, hf⟩ := h0
    exact opens22.2 _ _ _ _ _ _ _ _ _ hf
  obtain ⟨A0, c0, e0, g0, hr0⟩ := K0
  simp only [List.cons.injEq, Value.slice.injEq, and_true] at e0
  obtain ⟨rfl, rfl, rfl⟩ := e0
  obtain ⟨a1_, len1_, cap1_, rfl⟩ := okWide_slice Tryd.underlying22 (hval 1 22 v1 rfl rfl)
  have k1 := h1
  have lt1 : ∀ x ∈ p1, x.block < W.heap.size := by obtain ⟨m, hm⟩ := k1; exact DataW.trod_lt m _ _ _ hm
  obtain ⟨l1, K1, ok1⟩ : ∃ x, (Kd.slice 30 k30).K W x [.slice a1_ len1_ cap1_] ∧ (x.length ≤ maxLen ∧ ∀ x0_, x0_ ∈ x → ok30 x0_) := by
    obtain ⟨fuel, hf⟩ := h1
    exact opens22.2 _ _ _ _ _ _ _ _ _ hf
  obtain ⟨A1, c1, e1, g1, hr1⟩ := K1
  simp only [List.cons.injEq, Value.slice.injEq, and_true] at e1
  obtain ⟨rfl, rfl, rfl⟩ := e1
  clear hA0 hval0
  obtain ⟨k, hp⟩ := Pure.DensityKeeps l0 l1 ok0 ok1
  have hG : GI W := GI.of_laid laidL (by simp [laidL]) hL
  refine (spilelaw16_DensityKeeps.calls k _ _ l0 _ _ l1 true W hr0 g0 hr1 g1 hG rfl hp).mono fun e W' ⟨he, bel⟩ => ?_
  subst he
  exact ⟨_, rfl, _, _, _, [], _, [], hW', trodAll_mk1 (shut_bool Tryd.underlying4 _), (trodAll_cons_mk (Below.trod laidOut (by kernel_rfl) (of_decide_eq_true (by kernel_rfl)) k0 bel lt0) (trodAll_cons_mk (Below.trod laidOut (by kernel_rfl) (of_decide_eq_true (by kernel_rfl)) k1 bel lt1) trodAll_mk0)), rfl, bel.frame _, fun h => by cases h⟩
theorem holds (hwit : ∀ (os : Os) (args : Array Value), laidMetH Tryd.prog laidL ((World.doorLaid Tryd.prog 400 os).forCall (fun _ _ => 0) ⟨#[], args, []⟩).memory) : Rows.DensityKeepsSaid :=
  OpenClaim.holds_of_wide 7 Tryd.f7 rfl rfl rfl rfl rfl rfl rfl ⟨rfl, rfl, rfl, rfl, rfl⟩ rfl rfl rfl rfl rfl (by kernel_rfl) Tryd.func7 (by kernel_rfl)
    (of_decide_eq_true (by kernel_rfl)) (by unfold Func.isWrapper; first | (rw [if_pos (by decide +kernel)]; kernel_rfl) | (rw [if_neg (by decide +kernel)]; exact ⟨rfl, rfl⟩))
    (fun os started H enc _ => lifted os started H enc (hwit os))
theorem door_met (os : Os) (args : Array Value) : laidMetH Tryd.prog laidL ((World.doorLaid Tryd.prog 400 os).forCall (fun _ _ => 0) ⟨#[], args, []⟩).memory :=
  laidMetH_of_parts3 (fuel := 8) (laidMet_of_run' 8 (by kernel_rfl) (by kernel_rfl)) (by kernel_rfl) (by kernel_rfl)
theorem card : Rows.DensityKeepsCardSaid :=
  Claim7.holds_tied_plain_at .later [] [.data, .data, .data] true (true, "d9fa5d4542b48e79648329d3495f6539d36b662583432034243887fb958e9878") true
    (holds door_met) (fun _ h => by cases h) (by kernel_rfl) (fun _ h => by cases h) densityKeeps_row_tie rfl ⟨rfl, rfl⟩ (by kernel_rfl) rfl
    (fun f fn hf hfn => by
      obtain rfl : f = 7 := Option.some.inj ((show Tryd.prog.funcNamed "spile/spilelaw16.DensityKeeps" = some 7 by kernel_rfl).symm.trans hf) |>.symm
      obtain rfl : fn = Tryd.f7 := (Option.some.inj (Tryd.func7.symm.trans hfn)).symm
      exact ⟨by kernel_rfl, fun j t ht => by
        rw [Tryd.params7] at ht
        have hm : t ∈ [22, 22] := by simpa using Array.mem_of_getElem? ht
        have hall : ([22, 22].all fun u => !Tryd.prog.wantsStandIn u) = true := by kernel_rfl
        exact (show Tryd.prog.wantsStandIn t = false by simpa using List.all_eq_true.1 hall t hm)⟩)
    (by kernel_rfl)
end Go.Proofs.YtoofoicocfnfoaaDoor.densityKeeps
namespace Go.Proofs.YtoofoicocfnfoaaDoor
/-- The card, under a short name, for the claim. -/
theorem densityKeeps_holds : Rows.DensityKeepsCardSaid := densityKeeps.card
#print axioms densityKeeps_holds
end Go.Proofs.YtoofoicocfnfoaaDoor
