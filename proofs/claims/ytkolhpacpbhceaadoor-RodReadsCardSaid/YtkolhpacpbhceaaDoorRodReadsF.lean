/-
The law RodReads returns true for every input that can be read as data, and leaves its arguments as they were: the row, and the card that ties the listed variables to the program's text.
No condition of its own beyond those that the given row prints.
-/
import Derived.HandedShaped
import Derived.Handed
import Derived.Test.YtkolhpacpbhceaaDoorCards
import Derived.Test.YtkolhpacpbhceaaDoorTie
import Derived.ProofKit
import Derived.OpenShut
import Derived.ShutString
import Derived.ChangeOld
import Derived.SizedLaws
import Derived.LaidMore
import Derived.Lay
import Derived.MakeChecks
import Derived.SevenTiedAt
import Derived.LaidSub
import Derived.LaidOnce
import Derived.Stop.Joined
import Derived.Stop.LaidErr
import Derived.Test.YtkolhpacpbhceaaDoorRodReadsE
set_option linter.unusedVariables false
set_option linter.unusedSimpArgs false
namespace Go.Proofs.YtkolhpacpbhceaaDoor.PL
open Go Go.RowKit Go.Proofs.YtkolhpacpbhceaaDoorW.PrintWords Go.Proofs.YtkolhpacpbhceaaDoorW.PrintLast Go.Proofs.YtkolhpacpbhceaaDoorW.PrintMore Go.Proofs.YtkolhpacpbhceaaDoor.Pr Go.Proofs.YtkolhpacpbhceaaDoor.Opn Go.Proofs.YtkolhpacpbhceaaDoor.X
theorem rd39_get {l : List S39} {i : Int} (h0 : 0 ≤ i) (h : i < (l.length : Int)) : l[i.toNat]? = some (rd_T39 l i) := by
  have hl : i.toNat < l.length := by omega
  unfold rd_T39
  rw [List.getD_eq_getElem?_getD, List.getElem?_eq_getElem hl]
  rfl
theorem drop39 {l : List S39} {i : Int} (h0 : 0 ≤ i) (h1 : i < (l.length : Int)) : l.drop i.toNat = rd_T39 l i :: l.drop (i + 1).toNat := by
  have hl : i.toNat < l.length := by omega
  have g := rd39_get h0 h1
  rw [List.getElem?_eq_getElem hl] at g
  rw [← Option.some.inj g, show (i + 1).toNat = i.toNat + 1 from by omega, ← List.drop_eq_getElem_cons hl]
def Rng (x : S39) : Prop := 0 ≤ x.f0 ∧ x.f0 ≤ 200000 ∧ 0 ≤ x.f1 ∧ x.f1 ≤ 4294967296
def Stp (x y : S39) : Prop := x.f0 < y.f0 ∧ x.f1 ≤ y.f1
def OKT (l : List S39) (t : Int) : Prop := 2 ≤ (l.length : Int) ∧ (l.length : Int) ≤ 128 ∧ (0 ≤ t ∧ t ≤ 4294967296) ∧ (∀ j, 0 ≤ j → j < (l.length : Int) → Rng (rd_T39 l j)) ∧ (∀ j, 1 ≤ j → j < (l.length : Int) → Stp (rd_T39 l (j - 1)) (rd_T39 l j))
theorem volume_eq (b : Int) : dip_volume.f b = some (decide (0 ≤ b ∧ b ≤ 4294967296)) := by
  unfold dip_volume.f
  by_cases h : b ≥ 0
  · rw [if_pos h]
    exact congrArg some (decide_eq_decide.2 ⟨fun q => ⟨h, q⟩, fun q => q.2⟩)
  · rw [if_neg h, decide_eq_false (by omega)]
theorem bad_eq (x : S39) : ∃ b, dip_Check_1.f x.f0 x.f1 = some b ∧ (b = true ↔ ¬ Rng x) := by
  unfold dip_Check_1.f Rng
  rw [volume_eq]
  by_cases h1 : x.f0 < 0
  · exact ⟨true, by rw [if_pos h1], by simp; omega⟩
  by_cases h2 : x.f0 > 200000
  · exact ⟨true, by rw [if_neg h1, if_pos h2], by simp; omega⟩
  refine ⟨!decide (0 ≤ x.f1 ∧ x.f1 ≤ 4294967296), by rw [if_neg h1, if_neg h2]; rfl, ?_⟩
  by_cases h3 : 0 ≤ x.f1 ∧ x.f1 ≤ 4294967296
  · rw [decide_eq_true h3]; simp; omega
  · rw [decide_eq_false h3]; simp; omega
theorem range_dip (l : List S39) (hl : (l.length : Int) ≤ 9223372036854775807) : ∀ i, 0 ≤ i → i ≤ (l.length : Int) →
    ∃ r, Ev (fun k => api_Mark_38_at_51.l0 k l (l.length : Int) i) r ∧ (r ≥ 0 ↔ ¬ ∀ j, i ≤ j → j < (l.length : Int) → Rng (rd_T39 l j)) := by
  refine count_up 0 (l.length : Int) _ ?_ ?_
  · exact ⟨-1, Ev.step (fun k => api_Mark_38_at_51.l0.eq_2 ..) (evn (by omega) (Ev.now _)), by constructor; omega; exact fun h => absurd (fun j h1 h2 => by omega) h⟩
  · intro i h0 h1 ih
    obtain ⟨b, hb, hb2⟩ := bad_eq (rd_T39 l i)
    have hs := w64_succ h0 h1 hl
    by_cases c : Rng (rd_T39 l i)
    · obtain ⟨r, r1, r2⟩ := ih
      have hbf : ¬ b = true := fun h => hb2.1 h c
      refine ⟨r, Ev.step (fun k => api_Mark_38_at_51.l0.eq_2 ..) (evp h1 (evp h0 (evp h1 (evb (evc (fun _ => rfl) hb) (evn hbf (by rw [hs]; exact r1)))))), r2.trans (not_congr ⟨fun h j a q => ?_, fun h j a q => h j (by omega) q⟩)⟩
      by_cases e : j = i
      · rw [e]; exact c
      · exact h j (by omega) q
    · exact ⟨i, Ev.step (fun k => api_Mark_38_at_51.l0.eq_2 ..) (evp h1 (evp h0 (evp h1 (evb (evc (fun _ => rfl) hb) (evp (hb2.2 c) (Ev.now _)))))), ⟨fun _ h => c (h i (Int.le_refl _) h1), fun _ => h0⟩⟩
theorem order_both (l : List S39) (t : Int) (hn : (l.length : Int) ≤ 128) : ∀ i, 1 ≤ i → i ≤ (l.length : Int) →
    ∃ e, Ev (fun k => dip_Check.l0 k i l t) e ∧ Ev (fun k => spileref13_Check.l1 k i l t) e ∧ (e = 0 ↔ ∀ j, i ≤ j → j < (l.length : Int) → Stp (rd_T39 l (j - 1)) (rd_T39 l j)) := by
  refine count_up 1 (l.length : Int) _ ?_ ?_
  · exact ⟨0, Ev.step (fun k => dip_Check.l0.eq_2 ..) (evn (by omega) (Ev.now _)), Ev.step (fun k => spileref13_Check.l1.eq_2 ..) (evn (by omega) (Ev.now _)), ⟨fun _ j a b => by omega, fun _ => rfl⟩⟩
  · intro i h0 h1 ih
    have hs := w64_succ (i := i) (by omega) h1 (by omega)
    have hp := w64_pred (i := i) (by omega) (Int.le_of_lt h1) (by omega)
    have q0 : 0 ≤ wrap64 (i - 1) := by rw [hp]; omega
    have q1 : wrap64 (i - 1) < (l.length : Int) := by rw [hp]; omega
    by_cases c1 : (rd_T39 l (wrap64 (i - 1))).f0 ≥ (rd_T39 l i).f0
    · refine ⟨5, Ev.step (fun k => dip_Check.l0.eq_2 ..) (evp h1 (evp q0 (evp q1 (evp (by omega) (evp c1 (Ev.now _)))))), Ev.step (fun k => spileref13_Check.l1.eq_2 ..) (evp h1 (evp q0 (evp q1 (evp (by omega) (evp c1 (Ev.now _)))))), ⟨fun h => by omega, fun h => ?_⟩⟩
      rw [hp] at c1
      have := (h i (by omega) h1).1
      omega
    by_cases c2 : (rd_T39 l (wrap64 (i - 1))).f1 > (rd_T39 l i).f1
    · refine ⟨5, Ev.step (fun k => dip_Check.l0.eq_2 ..) (evp h1 (evp q0 (evp q1 (evp (by omega) (evn c1 (evp c2 (Ev.now _))))))), Ev.step (fun k => spileref13_Check.l1.eq_2 ..) (evp h1 (evp q0 (evp q1 (evp (by omega) (evn c1 (evp c2 (Ev.now _))))))), ⟨fun h => by omega, fun h => ?_⟩⟩
      rw [hp] at c2
      have := (h i (by omega) h1).2
      omega
    · obtain ⟨e, e1, e2, e3⟩ := ih
      refine ⟨e, Ev.step (fun k => dip_Check.l0.eq_2 ..) (evp h1 (evp q0 (evp q1 (evp (by omega) (evn c1 (evn c2 (by rw [hs]; exact e1))))))), Ev.step (fun k => spileref13_Check.l1.eq_2 ..) (evp h1 (evp q0 (evp q1 (evp (by omega) (evn c1 (evn c2 (by rw [hs]; exact e2))))))), e3.trans ⟨fun h j a b => ?_, fun h j a b => h j (by omega) b⟩⟩
      by_cases z : j = i
      · rw [hp] at c1 c2; rw [z]; exact ⟨by omega, by omega⟩
      · exact h j (by omega) b
theorem range_ref (l : List S39) (t e : Int) (hl : (l.length : Int) ≤ 9223372036854775807) (ht : 0 ≤ t ∧ t ≤ 4294967296 → Ev (fun k => spileref13_Check.l1 k 1 l t) e) (ht2 : ¬ (0 ≤ t ∧ t ≤ 4294967296) → e = 2) : ∀ i, 0 ≤ i → i ≤ (l.length : Int) →
    ((∀ j, i ≤ j → j < (l.length : Int) → Rng (rd_T39 l j)) → Ev (fun k => spileref13_Check.l0 k i l t) e) ∧ ((¬ ∀ j, i ≤ j → j < (l.length : Int) → Rng (rd_T39 l j)) → Ev (fun k => spileref13_Check.l0 k i l t) 2) := by
  refine count_up 0 (l.length : Int) _ ?_ ?_
  · refine ⟨fun _ => ?_, fun h => absurd (fun j a b => by omega) h⟩
    refine Ev.step (fun k => spileref13_Check.l0.eq_2 ..) (evn (by omega) ?_)
    by_cases c1 : t < 0
    · rw [ht2 (by omega)]
      exact evp c1 (Ev.step (fun k => spileref13_Check.j1.eq_2 ..) (evp rfl (Ev.now _)))
    · refine evn c1 ?_
      by_cases c2 : t > 4294967296
      · rw [ht2 (by omega), decide_eq_true c2]
        exact Ev.step (fun k => spileref13_Check.j1.eq_2 ..) (evp rfl (Ev.now _))
      · rw [decide_eq_false c2]
        exact Ev.step (fun k => spileref13_Check.j1.eq_2 ..) (evn (by simp) (ht (by omega)))
  · intro i h0 h1 ih
    have hs := w64_succ h0 h1 hl
    by_cases c : Rng (rd_T39 l i)
    · have up : ∀ r, Ev (fun k => spileref13_Check.l0 k (i + 1) l t) r → Ev (fun k => spileref13_Check.l0 k i l t) r := fun r h => by
        have c' := c
        unfold Rng at c'
        exact Ev.step (fun k => spileref13_Check.l0.eq_2 ..) (evp h1 (evp h0 (evn (by omega) (evn (by omega) (evn (by omega) (evn (by omega) (by rw [hs]; exact h)))))))
      refine ⟨fun h => up _ (ih.1 fun j a b => h j (by omega) b), fun h => up _ (ih.2 fun h2 => h fun j a b => ?_)⟩
      by_cases z : j = i
      · rw [z]; exact c
      · exact h2 j (by omega) b
    · refine ⟨fun h => absurd (h i (Int.le_refl _) h1) c, fun _ => ?_⟩
      unfold Rng at c
      by_cases d1 : (rd_T39 l i).f0 < 0
      · exact Ev.step (fun k => spileref13_Check.l0.eq_2 ..) (evp h1 (evp h0 (evp d1 (Ev.now _))))
      by_cases d2 : (rd_T39 l i).f0 > 200000
      · exact Ev.step (fun k => spileref13_Check.l0.eq_2 ..) (evp h1 (evp h0 (evn d1 (evp d2 (Ev.now _)))))
      by_cases d3 : (rd_T39 l i).f1 < 0
      · exact Ev.step (fun k => spileref13_Check.l0.eq_2 ..) (evp h1 (evp h0 (evn d1 (evn d2 (evp d3 (Ev.now _))))))
      · exact Ev.step (fun k => spileref13_Check.l0.eq_2 ..) (evp h1 (evp h0 (evn d1 (evn d2 (evn d3 (evp (by omega) (Ev.now _)))))))
theorem tab_both (l : List S39) (t : Int) (hl : (l.length : Int) ≤ 9223372036854775807) : ∃ e, Ev (fun k => dip_Check.f k l t) e ∧ Ev (fun k => spileref13_Check.f k l t) e ∧ (e = 0 ↔ OKT l t) := by
  by_cases a1 : (l.length : Int) < 2
  · exact ⟨9, evp a1 (Ev.now _), evp a1 (Ev.now _), ⟨fun h => by omega, fun h => by have := h.1; omega⟩⟩
  by_cases a2 : (l.length : Int) > 128
  · exact ⟨8, evn a1 (evp a2 (Ev.now _)), evn a1 (evp a2 (Ev.now _)), ⟨fun h => by omega, fun h => by have := h.2.1; omega⟩⟩
  obtain ⟨e, e1, e2, e3⟩ := order_both l t (by omega) 1 (Int.le_refl _) (by omega)
  obtain ⟨r, r1, r2⟩ := range_dip l hl 0 (Int.le_refl _) (by omega)
  have two : Ev (fun k => dip_Check.j0 k true l t) 2 := Ev.step (fun k => dip_Check.j0.eq_2 ..) (evp rfl (Ev.now _))
  by_cases ht : 0 ≤ t ∧ t ≤ 4294967296
  · have ref := range_ref l t e hl (fun _ => e2) (fun h => absurd ht h) 0 (Int.le_refl _) (by omega)
    have pre : ∀ z, Ev (fun k => dip_Check.j0 k (decide (r ≥ 0)) l t) z → Ev (fun k => dip_Check.f k l t) z := fun z h =>
      evn a1 (evn a2 (evb (evc (fun _ => rfl) (volume_eq t)) (evp (decide_eq_true ht) (evb (evb r1 (Ev.now _)) h))))
    by_cases hr : ∀ j, 0 ≤ j → j < (l.length : Int) → Rng (rd_T39 l j)
    · refine ⟨e, pre _ ?_, evn a1 (evn a2 (ref.1 hr)), e3.trans ⟨fun h => ⟨by omega, by omega, ht, hr, h⟩, fun h => h.2.2.2.2⟩⟩
      rw [decide_eq_false (fun h => r2.1 h hr)]
      exact Ev.step (fun k => dip_Check.j0.eq_2 ..) (evn (by simp) e1)
    · refine ⟨2, pre _ ?_, evn a1 (evn a2 (ref.2 hr)), ⟨fun h => by omega, fun h => absurd h.2.2.2.1 hr⟩⟩
      rw [decide_eq_true (r2.2 hr)]
      exact two
  · have ref := range_ref l t 2 hl (fun h => absurd h ht) (fun _ => rfl) 0 (Int.le_refl _) (by omega)
    refine ⟨2, evn a1 (evn a2 (evb (evc (fun _ => rfl) (volume_eq t)) (evn (by simpa using ht) two))), evn a1 (evn a2 ?_), ⟨fun h => by omega, fun h => absurd h.2.2.1 ht⟩⟩
    by_cases hr : ∀ j, 0 ≤ j → j < (l.length : Int) → Rng (rd_T39 l j)
    · exact ref.1 hr
    · exact ref.2 hr
def atL : List S39 → Int → Int
  | a :: b :: r, x => if x ≤ b.f0 then a.f1 + (b.f1 - a.f1) * (x - a.f0) / (b.f0 - a.f0) else atL (b :: r) x
  | _, _ => 0
theorem atL_cons (a b : S39) (r : List S39) (x : Int) : atL (a :: b :: r) x = if x ≤ b.f0 then a.f1 + (b.f1 - a.f1) * (x - a.f0) / (b.f0 - a.f0) else atL (b :: r) x := rfl
theorem frac {p q n d : Int} (hp : 0 ≤ p) (hn : 0 ≤ n) (hnd : n ≤ d) (hd : 0 < d) : 0 ≤ p * n / d ∧ p * n / d ≤ p := by
  refine ⟨Int.ediv_nonneg (Int.mul_nonneg hp hn) (by omega), ?_⟩
  have h1 : p * n ≤ p * d := Int.mul_le_mul_of_nonneg_left hnd hp
  have h2 := Int.ediv_le_ediv hd h1
  rwa [Int.mul_ediv_cancel _ (by omega)] at h2
/-- The first and the last height, the last volume. -/
def h0 (l : List S39) : Int := (rd_T39 l 0).f0
def hN (l : List S39) : Int := (rd_T39 l ((l.length : Int) - 1)).f0
theorem two_of {l : List S39} (h : 2 ≤ (l.length : Int)) : ∃ a b r, l = a :: b :: r := by
  cases l with
  | nil => exact absurd h (by simp)
  | cons a l =>
    cases l with
    | nil => exact absurd h (by simp)
    | cons b r => exact ⟨a, b, r, rfl⟩
theorem step_eq {l : List S39} {i : Int} (x : Int) (h1 : 1 ≤ i) (h2 : i < (l.length : Int)) : atL (l.drop (i - 1).toNat) x = if x ≤ (rd_T39 l i).f0 then (rd_T39 l (i - 1)).f1 + ((rd_T39 l i).f1 - (rd_T39 l (i - 1)).f1) * (x - (rd_T39 l (i - 1)).f0) / ((rd_T39 l i).f0 - (rd_T39 l (i - 1)).f0) else atL (l.drop i.toNat) x := by
  rw [drop39 (i := i - 1) (by omega) (by omega), show i - 1 + 1 = i from by omega, drop39 (i := i) (by omega) h2, atL_cons, ← drop39 (i := i) (by omega) h2]
theorem read_loop {l : List S39} {t : Int} (h : OKT l t) (x : Int) (hx : x ≤ hN l) : ∀ i, 1 ≤ i → i ≤ (l.length : Int) → i < (l.length : Int) → (rd_T39 l (i - 1)).f0 ≤ x →
    Ev (fun k => dip_read.l0 k x i l t) (atL (l.drop (i - 1).toNat) x) ∧ Ev (fun k => spileref13_At.l0 k x i l t) (atL (l.drop (i - 1).toNat) x) := by
  obtain ⟨h2, h3, h4, h5, h6⟩ := h
  refine count_up 1 (l.length : Int) (fun i => i < (l.length : Int) → (rd_T39 l (i - 1)).f0 ≤ x → Ev (fun k => dip_read.l0 k x i l t) (atL (l.drop (i - 1).toNat) x) ∧ Ev (fun k => spileref13_At.l0 k x i l t) (atL (l.drop (i - 1).toNat) x)) (fun g => absurd g (by omega)) ?_
  intro i g0 g1 ih _ gx
  have hp := w64_pred (i := i) (by omega) (Int.le_of_lt g1) (by omega)
  have hs := w64_succ (i := i) (by omega) g1 (by omega)
  have q0 : 0 ≤ wrap64 (i - 1) := by rw [hp]; omega
  have q1 : wrap64 (i - 1) < (l.length : Int) := by rw [hp]; omega
  have ra := h5 (i - 1) (by omega) (by omega)
  have rb := h5 i (by omega) g1
  have rs := h6 i g0 g1
  unfold Rng at ra rb
  unfold Stp at rs
  rw [step_eq x g0 g1]
  by_cases c : (rd_T39 l i).f0 < x
  · rw [if_neg (by omega)]
    have c2 : i + 1 < (l.length : Int) := by
      rcases Int.lt_or_le (i + 1) (l.length : Int) with h | h
      · exact h
      · have e : i = (l.length : Int) - 1 := by omega
        unfold hN at hx
        rw [← e] at hx
        omega
    have q := ih c2 (by rw [show i + 1 - 1 = i from by omega]; omega)
    rw [show i + 1 - 1 = i from by omega] at q
    exact ⟨Ev.step (fun k => dip_read.l0.eq_2 ..) (evp (by omega) (evp g1 (evp c (by rw [hs]; exact q.1)))), Ev.step (fun k => spileref13_At.l0.eq_2 ..) (evp (by omega) (evp g1 (evp c (by rw [hs]; exact q.2))))⟩
  · rw [if_pos (by omega)]
    have w1 : wrap64 ((rd_T39 l i).f0 - (rd_T39 l (i - 1)).f0) = (rd_T39 l i).f0 - (rd_T39 l (i - 1)).f0 := w64 (by omega) (by omega)
    have w2 : wrap64 ((rd_T39 l i).f1 - (rd_T39 l (i - 1)).f1) = (rd_T39 l i).f1 - (rd_T39 l (i - 1)).f1 := w64 (by omega) (by omega)
    have w3 : wrap64 (x - (rd_T39 l (i - 1)).f0) = x - (rd_T39 l (i - 1)).f0 := w64 (by omega) (by omega)
    have mb := mulb (x := (rd_T39 l i).f1 - (rd_T39 l (i - 1)).f1) (y := x - (rd_T39 l (i - 1)).f0) (X := 4294967296) (Y := 200000) (by omega) (by omega) (by omega) (by omega)
    have w4 : wrap64 (((rd_T39 l i).f1 - (rd_T39 l (i - 1)).f1) * (x - (rd_T39 l (i - 1)).f0)) = ((rd_T39 l i).f1 - (rd_T39 l (i - 1)).f1) * (x - (rd_T39 l (i - 1)).f0) := w64 (by omega) (by omega)
    have fr := frac (p := (rd_T39 l i).f1 - (rd_T39 l (i - 1)).f1) (q := 0) (n := x - (rd_T39 l (i - 1)).f0) (d := (rd_T39 l i).f0 - (rd_T39 l (i - 1)).f0) (by omega) (by omega) (by omega) (by omega)
    have w5 : Int.tdiv (((rd_T39 l i).f1 - (rd_T39 l (i - 1)).f1) * (x - (rd_T39 l (i - 1)).f0)) ((rd_T39 l i).f0 - (rd_T39 l (i - 1)).f0) = ((rd_T39 l i).f1 - (rd_T39 l (i - 1)).f1) * (x - (rd_T39 l (i - 1)).f0) / ((rd_T39 l i).f0 - (rd_T39 l (i - 1)).f0) := Int.tdiv_eq_ediv_of_nonneg mb.1
    have w6 : wrap64 (((rd_T39 l i).f1 - (rd_T39 l (i - 1)).f1) * (x - (rd_T39 l (i - 1)).f0) / ((rd_T39 l i).f0 - (rd_T39 l (i - 1)).f0)) = ((rd_T39 l i).f1 - (rd_T39 l (i - 1)).f1) * (x - (rd_T39 l (i - 1)).f0) / ((rd_T39 l i).f0 - (rd_T39 l (i - 1)).f0) := w64 (by omega) (by omega)
    constructor
    · refine Ev.step (fun k => dip_read.l0.eq_2 ..) (evp (by omega) (evp g1 (evn c (evp q0 (evp q1 ?_)))))
      rw [hp, w1, w2, w3, w4, w5, w6]
      exact evn (by omega) (evr (w64 (by omega) (by omega)))
    · refine Ev.step (fun k => spileref13_At.l0.eq_2 ..) (evp (by omega) (evp g1 (evn c (evp q0 (evp q1 ?_)))))
      rw [hp, w1, w2, w3, w4, w5, w6]
      exact evn (by omega) (evr (w64 (by omega) (by omega)))
theorem read_both {l : List S39} {t : Int} (h : OKT l t) (x : Int) (hx0 : h0 l ≤ x) (hx : x ≤ hN l) : Ev (fun k => dip_read.f k l t x) (atL l x) ∧ Ev (fun k => spileref13_At.f k l t x) (atL l x) := by
  have := read_loop h x hx 1 (Int.le_refl _) (by have := h.1; omega) (by have := h.1; omega) hx0
  rwa [show (1 - 1 : Int).toNat = 0 from rfl, List.drop_zero] at this
/-- What Read answers. -/
def rdR (l : List S39) (x : Int) : Int × Int := if x < h0 l then (0, 2) else if x > hN l then (0, 2) else (atL l x, 0)
theorem Read_both {l : List S39} {t : Int} (h : OKT l t) (x : Int) : Ev (fun k => dip_Read.f k l t x) (rdR l x) ∧ Ev (fun k => spileref13_Read.f k l t x) (rdR l x) := by
  have h2 := h.1
  have h3 := h.2.1
  obtain ⟨e, e1, e2, e3⟩ := tab_both l t (by omega)
  obtain rfl := e3.2 h
  have hp := w64_pred (i := (l.length : Int)) (by omega) (Int.le_refl _) (by omega)
  have q0 : 0 ≤ wrap64 ((l.length : Int) - 1) := by rw [hp]; omega
  have q1 : wrap64 ((l.length : Int) - 1) < (l.length : Int) := by rw [hp]; omega
  unfold rdR
  by_cases c1 : x < h0 l
  · rw [if_pos c1]
    exact ⟨evb e1 (evp rfl (evp (by omega) (evp c1 (Ev.now _)))), evb e2 (evp rfl (evp (by omega) (evp c1 (Ev.now _))))⟩
  by_cases c2 : x > hN l
  · rw [if_neg c1, if_pos c2]
    have c2' : x > (rd_T39 l (wrap64 ((l.length : Int) - 1))).f0 := by rw [hp]; exact c2
    exact ⟨evb e1 (evp rfl (evp (by omega) (evn c1 (evp q0 (evp q1 (evp c2' (Ev.now _))))))), evb e2 (evp rfl (evp (by omega) (evn c1 (evp q0 (evp q1 (evp c2' (Ev.now _)))))))⟩
  · rw [if_neg c1, if_neg c2]
    have c2' : ¬ x > (rd_T39 l (wrap64 ((l.length : Int) - 1))).f0 := by rw [hp]; exact c2
    obtain ⟨r1, r2⟩ := read_both h x (by omega) (by omega)
    exact ⟨evb e1 (evp rfl (evp (by omega) (evn c1 (evp q0 (evp q1 (evn c2' (evb r1 (Ev.now _)))))))), evb e2 (evp rfl (evp (by omega) (evn c1 (evp q0 (evp q1 (evn c2' (evb r2 (Ev.now _))))))))⟩
end Go.Proofs.YtkolhpacpbhceaaDoor.PL
namespace Go.Proofs.YtkolhpacpbhceaaDoor.PL
open Go Go.RowKit Go.Proofs.YtkolhpacpbhceaaDoorW.PrintWords Go.Proofs.YtkolhpacpbhceaaDoorW.PrintLast Go.Proofs.YtkolhpacpbhceaaDoorW.PrintMore Go.Proofs.YtkolhpacpbhceaaDoor.Pr Go.Proofs.YtkolhpacpbhceaaDoor.Opn Go.Proofs.YtkolhpacpbhceaaDoor.X
def RngR (x : S39) : Prop := 0 ≤ x.f0 ∧ x.f0 ≤ 200000 ∧ 1 ≤ x.f1 ∧ x.f1 ≤ 4294967296
def StpR (x y : S39) : Prop := x.f0 < y.f0 ∧ x.f1 < y.f1
def OKR (l : List S39) : Prop := 1 ≤ (l.length : Int) ∧ (l.length : Int) ≤ 128 ∧ (∀ j, 0 ≤ j → j < (l.length : Int) → RngR (rd_T39 l j)) ∧ (∀ j, 1 ≤ j → j < (l.length : Int) → StpR (rd_T39 l (j - 1)) (rd_T39 l j))
theorem badR_eq (x : S39) : ∃ b, rod_Check_1.f x.f0 x.f1 = some b ∧ (b = true ↔ ¬ RngR x) := by
  unfold rod_Check_1.f RngR
  by_cases h1 : x.f0 < 0
  · exact ⟨true, by rw [if_pos h1], by simp; omega⟩
  by_cases h2 : x.f0 > 200000
  · exact ⟨true, by rw [if_neg h1, if_pos h2], by simp; omega⟩
  by_cases h3 : x.f1 < 1
  · exact ⟨true, by rw [if_neg h1, if_neg h2, if_pos h3], by simp; omega⟩
  refine ⟨decide (x.f1 > 4294967296), by rw [if_neg h1, if_neg h2, if_neg h3], ?_⟩
  rw [decide_eq_true_iff]
  omega
theorem range_rod (l : List S39) (hl : (l.length : Int) ≤ 9223372036854775807) : ∀ i, 0 ≤ i → i ≤ (l.length : Int) →
    ∃ r, Ev (fun k => api_Mark_38_at_41.l0 k l (l.length : Int) i) r ∧ (r ≥ 0 ↔ ¬ ∀ j, i ≤ j → j < (l.length : Int) → RngR (rd_T39 l j)) := by
  refine count_up 0 (l.length : Int) _ ?_ ?_
  · exact ⟨-1, Ev.step (fun k => api_Mark_38_at_41.l0.eq_2 ..) (evn (by omega) (Ev.now _)), by constructor; omega; exact fun h => absurd (fun j h1 h2 => by omega) h⟩
  · intro i h0 h1 ih
    obtain ⟨b, hb, hb2⟩ := badR_eq (rd_T39 l i)
    have hs := w64_succ h0 h1 hl
    by_cases c : RngR (rd_T39 l i)
    · obtain ⟨r, r1, r2⟩ := ih
      have hbf : ¬ b = true := fun h => hb2.1 h c
      refine ⟨r, Ev.step (fun k => api_Mark_38_at_41.l0.eq_2 ..) (evp h1 (evp h0 (evp h1 (evb (evc (fun _ => rfl) hb) (evn hbf (by rw [hs]; exact r1)))))), r2.trans (not_congr ⟨fun h j a q => ?_, fun h j a q => h j (by omega) q⟩)⟩
      by_cases e : j = i
      · rw [e]; exact c
      · exact h j (by omega) q
    · exact ⟨i, Ev.step (fun k => api_Mark_38_at_41.l0.eq_2 ..) (evp h1 (evp h0 (evp h1 (evb (evc (fun _ => rfl) hb) (evp (hb2.2 c) (Ev.now _)))))), ⟨fun _ h => c (h i (Int.le_refl _) h1), fun _ => h0⟩⟩
theorem orderR_both (l : List S39) (hn : (l.length : Int) ≤ 128) : ∀ i, 1 ≤ i → i ≤ (l.length : Int) →
    ∃ e, Ev (fun k => rod_Check.l0 k l i) e ∧ Ev (fun k => spileref14_Check.l1 k l i) e ∧ (e = 0 ↔ ∀ j, i ≤ j → j < (l.length : Int) → StpR (rd_T39 l (j - 1)) (rd_T39 l j)) := by
  refine count_up 1 (l.length : Int) _ ?_ ?_
  · exact ⟨0, Ev.step (fun k => rod_Check.l0.eq_2 ..) (evn (by omega) (Ev.now _)), Ev.step (fun k => spileref14_Check.l1.eq_2 ..) (evn (by omega) (Ev.now _)), ⟨fun _ j a b => by omega, fun _ => rfl⟩⟩
  · intro i h0 h1 ih
    have hs := w64_succ (i := i) (by omega) h1 (by omega)
    have hp := w64_pred (i := i) (by omega) (Int.le_of_lt h1) (by omega)
    have q0 : 0 ≤ wrap64 (i - 1) := by rw [hp]; omega
    have q1 : wrap64 (i - 1) < (l.length : Int) := by rw [hp]; omega
    by_cases c1 : (rd_T39 l (wrap64 (i - 1))).f0 ≥ (rd_T39 l i).f0
    · refine ⟨5, Ev.step (fun k => rod_Check.l0.eq_2 ..) (evp h1 (evp q0 (evp q1 (evp (by omega) (evp c1 (Ev.now _)))))), Ev.step (fun k => spileref14_Check.l1.eq_2 ..) (evp h1 (evp q0 (evp q1 (evp (by omega) (evp c1 (Ev.now _)))))), ⟨fun h => by omega, fun h => ?_⟩⟩
      rw [hp] at c1
      have := (h i (by omega) h1).1
      omega
    by_cases c2 : (rd_T39 l (wrap64 (i - 1))).f1 ≥ (rd_T39 l i).f1
    · refine ⟨5, Ev.step (fun k => rod_Check.l0.eq_2 ..) (evp h1 (evp q0 (evp q1 (evp (by omega) (evn c1 (evp c2 (Ev.now _))))))), Ev.step (fun k => spileref14_Check.l1.eq_2 ..) (evp h1 (evp q0 (evp q1 (evp (by omega) (evn c1 (evp c2 (Ev.now _))))))), ⟨fun h => by omega, fun h => ?_⟩⟩
      rw [hp] at c2
      have := (h i (by omega) h1).2
      omega
    · obtain ⟨e, e1, e2, e3⟩ := ih
      refine ⟨e, Ev.step (fun k => rod_Check.l0.eq_2 ..) (evp h1 (evp q0 (evp q1 (evp (by omega) (evn c1 (evn c2 (by rw [hs]; exact e1))))))), Ev.step (fun k => spileref14_Check.l1.eq_2 ..) (evp h1 (evp q0 (evp q1 (evp (by omega) (evn c1 (evn c2 (by rw [hs]; exact e2))))))), e3.trans ⟨fun h j a b => ?_, fun h j a b => h j (by omega) b⟩⟩
      by_cases z : j = i
      · rw [hp] at c1 c2; rw [z]; exact ⟨by omega, by omega⟩
      · exact h j (by omega) b
theorem rangeR_ref (l : List S39) (e : Int) (hl : (l.length : Int) ≤ 9223372036854775807) (he : Ev (fun k => spileref14_Check.l1 k l 1) e) : ∀ i, 0 ≤ i → i ≤ (l.length : Int) →
    ((∀ j, i ≤ j → j < (l.length : Int) → RngR (rd_T39 l j)) → Ev (fun k => spileref14_Check.l0 k l i) e) ∧ ((¬ ∀ j, i ≤ j → j < (l.length : Int) → RngR (rd_T39 l j)) → Ev (fun k => spileref14_Check.l0 k l i) 2) := by
  refine count_up 0 (l.length : Int) _ ?_ ?_
  · exact ⟨fun _ => Ev.step (fun k => spileref14_Check.l0.eq_2 ..) (evn (by omega) he), fun h => absurd (fun j a b => by omega) h⟩
  · intro i h0 h1 ih
    have hs := w64_succ h0 h1 hl
    by_cases c : RngR (rd_T39 l i)
    · have up : ∀ r, Ev (fun k => spileref14_Check.l0 k l (i + 1)) r → Ev (fun k => spileref14_Check.l0 k l i) r := fun r h => by
        have c' := c
        unfold RngR at c'
        exact Ev.step (fun k => spileref14_Check.l0.eq_2 ..) (evp h1 (evp h0 (evn (by omega) (evn (by omega) (evn (by omega) (evn (by omega) (by rw [hs]; exact h)))))))
      refine ⟨fun h => up _ (ih.1 fun j a b => h j (by omega) b), fun h => up _ (ih.2 fun h2 => h fun j a b => ?_)⟩
      by_cases z : j = i
      · rw [z]; exact c
      · exact h2 j (by omega) b
    · refine ⟨fun h => absurd (h i (Int.le_refl _) h1) c, fun _ => ?_⟩
      unfold RngR at c
      by_cases d1 : (rd_T39 l i).f0 < 0
      · exact Ev.step (fun k => spileref14_Check.l0.eq_2 ..) (evp h1 (evp h0 (evp d1 (Ev.now _))))
      by_cases d2 : (rd_T39 l i).f0 > 200000
      · exact Ev.step (fun k => spileref14_Check.l0.eq_2 ..) (evp h1 (evp h0 (evn d1 (evp d2 (Ev.now _)))))
      by_cases d3 : (rd_T39 l i).f1 < 1
      · exact Ev.step (fun k => spileref14_Check.l0.eq_2 ..) (evp h1 (evp h0 (evn d1 (evn d2 (evp d3 (Ev.now _))))))
      · exact Ev.step (fun k => spileref14_Check.l0.eq_2 ..) (evp h1 (evp h0 (evn d1 (evn d2 (evn d3 (evp (by omega) (Ev.now _)))))))
theorem rod_both (l : List S39) (hl : (l.length : Int) ≤ 9223372036854775807) : ∃ e, Ev (fun k => rod_Check.f k l) e ∧ Ev (fun k => spileref14_Check.f k l) e ∧ (e = 0 ↔ OKR l) := by
  by_cases a1 : (l.length : Int) = 0
  · exact ⟨9, evp a1 (Ev.now _), evp a1 (Ev.now _), ⟨fun h => by omega, fun h => by have := h.1; omega⟩⟩
  by_cases a2 : (l.length : Int) > 128
  · exact ⟨8, evn a1 (evp a2 (Ev.now _)), evn a1 (evp a2 (Ev.now _)), ⟨fun h => by omega, fun h => by have := h.2.1; omega⟩⟩
  obtain ⟨e, e1, e2, e3⟩ := orderR_both l (by omega) 1 (Int.le_refl _) (by omega)
  obtain ⟨r, r1, r2⟩ := range_rod l hl 0 (Int.le_refl _) (by omega)
  have ref := rangeR_ref l e hl e2 0 (Int.le_refl _) (by omega)
  by_cases hr : ∀ j, 0 ≤ j → j < (l.length : Int) → RngR (rd_T39 l j)
  · refine ⟨e, evn a1 (evn a2 (evb (evb r1 (Ev.now _)) (evn ?_ e1))), evn a1 (evn a2 (ref.1 hr)), e3.trans ⟨fun h => ⟨by omega, by omega, hr, h⟩, fun h => h.2.2.2⟩⟩
    rw [decide_eq_false (fun h => r2.1 h hr)]; simp
  · exact ⟨2, evn a1 (evn a2 (evb (evb r1 (Ev.now _)) (evp (decide_eq_true (r2.2 hr)) (Ev.now _)))), evn a1 (evn a2 (ref.2 hr)), ⟨fun h => by omega, fun h => absurd h.2.2.1 hr⟩⟩
end Go.Proofs.YtkolhpacpbhceaaDoor.PL
namespace Go.Proofs.YtkolhpacpbhceaaDoor.PL
open Go Go.RowKit Go.Proofs.YtkolhpacpbhceaaDoorW.PrintWords Go.Proofs.YtkolhpacpbhceaaDoorW.PrintLast Go.Proofs.YtkolhpacpbhceaaDoorW.PrintMore Go.Proofs.YtkolhpacpbhceaaDoor.Pr Go.Proofs.YtkolhpacpbhceaaDoor.Opn Go.Proofs.YtkolhpacpbhceaaDoor.X
/-- What a right rod's reading is. -/
def Rdg (l : List S39) (wet : Int) (r : Int × Int × Int) : Prop :=
  (∃ j, 0 ≤ j ∧ j < (l.length : Int) ∧ wet < (rd_T39 l j).f0 ∧ (∀ m, 0 ≤ m → m < j → (rd_T39 l m).f0 ≤ wet) ∧ r = ((if j = 0 then 0 else (rd_T39 l (j - 1)).f1), (rd_T39 l j).f1 - 1, 0)) ∨
  ((∀ m, 0 ≤ m → m < (l.length : Int) → (rd_T39 l m).f0 ≤ wet) ∧ r = ((rd_T39 l ((l.length : Int) - 1)).f1, (rd_T39 l ((l.length : Int) - 1)).f1, 0))
theorem okr_lt {l : List S39} (h : OKR l) : ∀ (d : Nat) (a : Int), 0 ≤ a → a + d < (l.length : Int) → (rd_T39 l a).f0 ≤ (rd_T39 l (a + d)).f0
  | 0, a, _, _ => by rw [show a + ((0 : Nat) : Int) = a from by omega]; exact Int.le_refl _
  | d + 1, a, h0, h1 => by
    have ih := okr_lt h d a h0 (by omega)
    have := (h.2.2.2 (a + d + 1) (by omega) (by omega)).1
    rw [show a + (d : Int) + 1 - 1 = a + d from by omega] at this
    rw [show a + ((d + 1 : Nat) : Int) = a + d + 1 from by omega]
    omega
theorem okr_mono {l : List S39} (h : OKR l) {a b : Int} (h0 : 0 ≤ a) (h1 : a ≤ b) (h2 : b < (l.length : Int)) : (rd_T39 l a).f0 ≤ (rd_T39 l b).f0 := by
  have := okr_lt h (b - a).toNat a h0 (by omega)
  rwa [show a + ((b - a).toNat : Int) = b from by omega] at this
theorem reading_loop {l : List S39} (h : OKR l) (wet : Int) : ∀ i, 0 ≤ i → i ≤ (l.length : Int) → (∀ m, 0 ≤ m → m < i → (rd_T39 l m).f0 ≤ wet) →
    ∃ r, Ev (fun k => rod_Reading.l0 k wet l (l.length : Int) i (if i = 0 then 0 else (rd_T39 l (i - 1)).f1) (rd_T39 l ((l.length : Int) - 1)).f1) r ∧
      (wet < (rd_T39 l ((l.length : Int) - 1)).f0 → Ev (fun k => spileref14_Reading.l0 k l wet i (if i = 0 then 0 else (rd_T39 l (i - 1)).f1)) r) ∧ Rdg l wet r := by
  obtain ⟨n1, n2, hr, hs⟩ := h
  refine count_up 0 (l.length : Int) (fun i => (∀ m, 0 ≤ m → m < i → (rd_T39 l m).f0 ≤ wet) →
    ∃ r, Ev (fun k => rod_Reading.l0 k wet l (l.length : Int) i (if i = 0 then 0 else (rd_T39 l (i - 1)).f1) (rd_T39 l ((l.length : Int) - 1)).f1) r ∧
      (wet < (rd_T39 l ((l.length : Int) - 1)).f0 → Ev (fun k => spileref14_Reading.l0 k l wet i (if i = 0 then 0 else (rd_T39 l (i - 1)).f1)) r) ∧ Rdg l wet r) ?_ ?_
  · intro hm
    rw [if_neg (by omega)]
    refine ⟨_, Ev.step (fun k => rod_Reading.l0.eq_2 ..) (evn (by omega) (Ev.now _)), fun c => ?_, .inr ⟨hm, rfl⟩⟩
    have := hm ((l.length : Int) - 1) (by omega) (by omega)
    omega
  · intro i h0 h1 ih hm
    have w1 := w64_succ (i := i) h0 h1 (by omega)
    have rg := hr i h0 h1
    unfold RngR at rg
    by_cases c : (rd_T39 l i).f0 > wet
    · have w2 : wrap64 ((rd_T39 l i).f1 - 1) = (rd_T39 l i).f1 - 1 := w64 (by omega) (by omega)
      refine ⟨_, Ev.step (fun k => rod_Reading.l0.eq_2 ..) (evp h1 (evp h0 (evp h1 (evp c (Ev.now _))))), fun _ => Ev.step (fun k => spileref14_Reading.l0.eq_2 ..) (evp h0 (evp h1 (evn (by omega) (Ev.now _)))), .inl ⟨i, h0, h1, c, hm, ?_⟩⟩
      rw [w2]
    · obtain ⟨r, r1, r2, r3⟩ := ih (fun m m0 m1 => by
        by_cases e : m = i
        · rw [e]; omega
        · exact hm m m0 (by omega))
      rw [if_neg (by omega), show i + 1 - 1 = i from by omega] at r1 r2
      refine ⟨r, Ev.step (fun k => rod_Reading.l0.eq_2 ..) (evp h1 (evp h0 (evp h1 (evn c (by rw [w1]; exact r1))))), fun q => Ev.step (fun k => spileref14_Reading.l0.eq_2 ..) (evp h0 (evp h1 (evp (by omega) (by rw [w1]; exact r2 q)))), r3⟩
theorem reading_both (l : List S39) (wet : Int) (hl : (l.length : Int) ≤ 9223372036854775807) : ∃ r, Ev (fun k => rod_Reading.f k l wet) r ∧ Ev (fun k => spileref14_Reading.f k l wet) r ∧
    (OKR l → 0 ≤ wet → (wet ≤ (rd_T39 l ((l.length : Int) - 1)).f0 → Rdg l wet r) ∧ ((rd_T39 l ((l.length : Int) - 1)).f0 < wet → r = (0, 0, 2))) := by
  obtain ⟨e, e1, e2, e3⟩ := rod_both l hl
  by_cases ok : OKR l
  case neg =>
    have he : ¬ e = 0 := fun q => ok (e3.1 q)
    exact ⟨_, evb e1 (evn he (Ev.now _)), evb e2 (evn he (Ev.now _)), fun q => absurd q ok⟩
  obtain rfl := e3.2 ok
  have n1 := ok.1
  have n2 := ok.2.1
  have hp := w64_pred (i := (l.length : Int)) (by omega) (Int.le_refl _) (by omega)
  have q0 : 0 ≤ wrap64 ((l.length : Int) - 1) := by rw [hp]; omega
  have q1 : wrap64 ((l.length : Int) - 1) < (l.length : Int) := by rw [hp]; omega
  have pre1 : ∀ r, Ev (fun k => if wet < 0 then (rod_Reading.j0 k l wet true (rd_T39 l ((l.length : Int) - 1)).f0 (rd_T39 l ((l.length : Int) - 1)).f1) else (rod_Reading.j0 k l wet (decide (wet > (rd_T39 l ((l.length : Int) - 1)).f0)) (rd_T39 l ((l.length : Int) - 1)).f0 (rd_T39 l ((l.length : Int) - 1)).f1)) r → Ev (fun k => rod_Reading.f k l wet) r := fun r hr => by
    refine evb e1 (evp rfl (evp q0 (evp q1 ?_)))
    rw [hp]
    exact hr
  have pre2 : ∀ r, Ev (fun k => if wet < 0 then (spileref14_Reading.j0 k l wet true (rd_T39 l ((l.length : Int) - 1)).f0 (rd_T39 l ((l.length : Int) - 1)).f1) else (spileref14_Reading.j0 k l wet (decide (wet > (rd_T39 l ((l.length : Int) - 1)).f0)) (rd_T39 l ((l.length : Int) - 1)).f0 (rd_T39 l ((l.length : Int) - 1)).f1)) r → Ev (fun k => spileref14_Reading.f k l wet) r := fun r hr => by
    refine evb e2 (evp rfl (evp q0 (evp q1 ?_)))
    rw [hp]
    exact hr
  by_cases c1 : wet < 0
  · exact ⟨(0, 0, 2), pre1 _ (evp c1 (Ev.step (fun k => rod_Reading.j0.eq_2 ..) (evp rfl (Ev.now _)))), pre2 _ (evp c1 (Ev.step (fun k => spileref14_Reading.j0.eq_2 ..) (evp rfl (Ev.now _)))), fun _ w => by omega⟩
  by_cases c2 : wet > (rd_T39 l ((l.length : Int) - 1)).f0
  · refine ⟨(0, 0, 2), pre1 _ (evn c1 ?_), pre2 _ (evn c1 ?_), fun _ _ => ⟨fun q => by omega, fun _ => rfl⟩⟩
    · rw [decide_eq_true c2]; exact Ev.step (fun k => rod_Reading.j0.eq_2 ..) (evp rfl (Ev.now _))
    · rw [decide_eq_true c2]; exact Ev.step (fun k => spileref14_Reading.j0.eq_2 ..) (evp rfl (Ev.now _))
  · obtain ⟨r, r1, r2, r3⟩ := reading_loop ok wet 0 (Int.le_refl _) (by omega) (fun m a b => by omega)
    rw [if_pos rfl] at r1 r2
    refine ⟨r, pre1 _ (evn c1 ?_), pre2 _ (evn c1 ?_), fun _ _ => ⟨fun _ => r3, fun q => by omega⟩⟩
    · rw [decide_eq_false c2]; exact Ev.step (fun k => rod_Reading.j0.eq_2 ..) (evn (by simp) r1)
    · rw [decide_eq_false c2]
      refine Ev.step (fun k => spileref14_Reading.j0.eq_2 ..) (evn (by simp) ?_)
      by_cases c3 : wet = (rd_T39 l ((l.length : Int) - 1)).f0
      · refine evp c3 (evr ?_)
        rcases r3 with ⟨j, j0, j1, j2, _⟩ | ⟨_, e⟩
        · have := okr_mono ok (a := j) (b := (l.length : Int) - 1) j0 (by omega) (by omega)
          omega
        · exact e.symm
      · exact evn c3 (r2 (by omega))
def Agree (l : List S39) (tol : Int) (m : S39) : Prop := (rdR l m.f0).2 = 0 ∧ ¬ wrap64 ((rdR l m.f0).1 - m.f1) > tol ∧ ¬ wrap64 (m.f1 - (rdR l m.f0).1) > tol
theorem compare_one {l : List S39} {t : Int} (h : OKT l t) (tol : Int) (m : S39) : ∃ b, Ev (fun k => rod_Compare_1.f k m.f0 m.f1 l t tol) b ∧ (b = true ↔ ¬ Agree l tol m) := by
  have r := (Read_both h m.f0).1
  unfold Agree
  by_cases c1 : (rdR l m.f0).2 = 0
  · by_cases c2 : wrap64 ((rdR l m.f0).1 - m.f1) > tol
    · exact ⟨true, evb r (evp c1 (evp c2 (Ev.now _))), by simp [c2]⟩
    · refine ⟨_, evb r (evp c1 (evn c2 (Ev.now _))), ?_⟩
      rw [decide_eq_true_iff]
      exact ⟨fun q a => a.2.2 q, fun q => Decidable.byContradiction (fun z => q ⟨c1, c2, z⟩)⟩
  · exact ⟨true, evb r (evn c1 (Ev.now _)), by simp [c1]⟩
theorem compare_loop {l : List S39} {t : Int} (h : OKT l t) (tol : Int) (r : List S39) (hr : (r.length : Int) ≤ 128) : ∀ i, 0 ≤ i → i ≤ (r.length : Int) →
    ∃ z, Ev (fun k => api_Mark_38_at_39.l0 k r (r.length : Int) i l t tol) z ∧ Ev (fun k => spileref14_Compare.l0 k r tol i l t) (z, 0) ∧ ((∀ j, i ≤ j → j < (r.length : Int) → Agree l tol (rd_T39 r j)) → z = -1) := by
  refine count_up 0 (r.length : Int) _ ?_ ?_
  · exact ⟨-1, Ev.step (fun k => api_Mark_38_at_39.l0.eq_2 ..) (evn (by omega) (Ev.now _)), Ev.step (fun k => spileref14_Compare.l0.eq_2 ..) (evn (by omega) (Ev.now _)), fun _ => rfl⟩
  · intro i h0 h1 ih
    have hs := w64_succ h0 h1 (by omega)
    obtain ⟨b, b1, b2⟩ := compare_one h tol (rd_T39 r i)
    have rd := (Read_both h (rd_T39 r i).f0).2
    by_cases c : Agree l tol (rd_T39 r i)
    · obtain ⟨z, z1, z2, z3⟩ := ih
      have nb : ¬ b = true := fun q => b2.1 q c
      refine ⟨z, Ev.step (fun k => api_Mark_38_at_39.l0.eq_2 ..) (evp h1 (evp h0 (evp h1 (evb b1 (evn nb (by rw [hs]; exact z1)))))), Ev.step (fun k => spileref14_Compare.l0.eq_2 ..) (evp h1 (evp h0 (evb rd (evp c.1 (evn c.2.1 (evn c.2.2 (by rw [hs]; exact z2))))))), fun q => z3 (fun j a b => q j (by omega) b)⟩
    · refine ⟨i, Ev.step (fun k => api_Mark_38_at_39.l0.eq_2 ..) (evp h1 (evp h0 (evp h1 (evb b1 (evp (b2.2 c) (Ev.now _)))))), Ev.step (fun k => spileref14_Compare.l0.eq_2 ..) (evp h1 (evp h0 (evb rd ?_))), fun q => absurd (q i (Int.le_refl _) h1) c⟩
      unfold Agree at c
      by_cases c1 : (rdR l (rd_T39 r i).f0).2 = 0
      · by_cases c2 : wrap64 ((rdR l (rd_T39 r i).f0).1 - (rd_T39 r i).f1) > tol
        · exact evp c1 (evp c2 (Ev.now _))
        · exact evp c1 (evn c2 (evp (Decidable.byContradiction (fun z => c ⟨c1, c2, z⟩)) (Ev.now _)))
      · exact evn c1 (Ev.now _)
theorem compare_both (r l : List S39) (t tol : Int) (hr : (r.length : Int) ≤ 9223372036854775807) (hl : (l.length : Int) ≤ 9223372036854775807) : ∃ z, Ev (fun k => rod_Compare.f k r l t tol) z ∧ Ev (fun k => spileref14_Compare.f k r l t tol) z ∧
    (OKR r → OKT l t → 0 ≤ tol → tol ≤ 1073741824 → (∀ j, 0 ≤ j → j < (r.length : Int) → Agree l tol (rd_T39 r j)) → z = (-1, 0)) := by
  obtain ⟨e, e1, e2, e3⟩ := rod_both r hr
  obtain ⟨g, g1, g2, g3⟩ := tab_both l t hl
  by_cases okr : OKR r
  case neg =>
    have he : ¬ e = 0 := fun q => okr (e3.1 q)
    exact ⟨(-1, 1), evb e1 (evn he (Ev.step (fun k => rod_Compare.j0.eq_2 ..) (evp rfl (Ev.now _)))), evb e2 (evn he (Ev.step (fun k => spileref14_Compare.j0.eq_2 ..) (evp rfl (Ev.now _)))), fun q => absurd q okr⟩
  obtain rfl := e3.2 okr
  by_cases okt : OKT l t
  case neg =>
    have hg : (g != 0) = true := by rw [bne_iff_ne]; exact fun q => okt (g3.1 q)
    exact ⟨(-1, 1), evb e1 (evp rfl (evb g1 (by rw [hg]; exact Ev.step (fun k => rod_Compare.j0.eq_2 ..) (evp rfl (Ev.now _))))), evb e2 (evp rfl (evb g2 (by rw [hg]; exact Ev.step (fun k => spileref14_Compare.j0.eq_2 ..) (evp rfl (Ev.now _))))), fun _ q => absurd q okt⟩
  obtain rfl := g3.2 okt
  have hf : ((0 : Int) != 0) = false := rfl
  have two : Ev (fun k => spileref14_Compare.j1 k r tol true l t) (-1, 2) := Ev.step (fun k => spileref14_Compare.j1.eq_2 ..) (evp rfl (Ev.now _))
  by_cases c1 : tol < 0
  · exact ⟨(-1, 2), evb e1 (evp rfl (evb g1 (by rw [hf]; exact Ev.step (fun k => rod_Compare.j0.eq_2 ..) (evn (by simp) (evp c1 (Ev.now _)))))), evb e2 (evp rfl (evb g2 (by rw [hf]; exact Ev.step (fun k => spileref14_Compare.j0.eq_2 ..) (evn (by simp) (evp c1 two))))), fun _ _ q => by omega⟩
  by_cases c2 : tol > 1073741824
  · exact ⟨(-1, 2), evb e1 (evp rfl (evb g1 (by rw [hf]; exact Ev.step (fun k => rod_Compare.j0.eq_2 ..) (evn (by simp) (evn c1 (evp c2 (Ev.now _))))))), evb e2 (evp rfl (evb g2 (by rw [hf]; exact Ev.step (fun k => spileref14_Compare.j0.eq_2 ..) (evn (by simp) (evn c1 (by rw [decide_eq_true c2]; exact two)))))), fun _ _ _ q => by omega⟩
  obtain ⟨z, z1, z2, z3⟩ := compare_loop okt tol r okr.2.1 0 (Int.le_refl _) (by omega)
  exact ⟨(z, 0), evb e1 (evp rfl (evb g1 (by rw [hf]; exact Ev.step (fun k => rod_Compare.j0.eq_2 ..) (evn (by simp) (evn c1 (evn c2 (evb z1 (Ev.now _)))))))),
    evb e2 (evp rfl (evb g2 (by rw [hf]; exact Ev.step (fun k => spileref14_Compare.j0.eq_2 ..) (evn (by simp) (evn c1 (by rw [decide_eq_false c2]; exact Ev.step (fun k => spileref14_Compare.j1.eq_2 ..) (evn (by simp) z2))))))), fun _ _ _ _ q => by rw [z3 q]⟩
theorem copy_eq {l : List S39} (t : Int) (h : (l.length : Int) ≤ 129) : spileref13_Copy.f l t = some (l, t) := by
  show (if ([] : List S39).length + l.length < 8796093022208 then some (([] : List S39) ++ l, t) else none) = _
  rw [if_pos (by simp; omega)]
  rfl
theorem clone_eq {l : List S39} (h : (l.length : Int) ≤ 129) : slices_Clone39.f l = some l := by
  unfold slices_Clone39.f
  rw [if_pos (by omega)]
theorem few_cases (r l : List S39) (t : Int) : ∃ b, spilelaw14_few.f r l t = some b ∧ (b = true → (r.length : Int) ≤ 129 ∧ (l.length : Int) ≤ 129) := by
  unfold spilelaw14_few.f spileref13_Few.f
  by_cases c : (r.length : Int) ≤ 129
  · exact ⟨decide ((l.length : Int) ≤ 129), by rw [if_pos c]; rfl, fun q => ⟨c, of_decide_eq_true q⟩⟩
  · exact ⟨false, by rw [if_neg c], fun q => by cases q⟩
end Go.Proofs.YtkolhpacpbhceaaDoor.PL
namespace Go.Proofs.YtkolhpacpbhceaaDoor.Pure
open Go Go.RowKit Go.Proofs.YtkolhpacpbhceaaDoorW.PrintWords Go.Proofs.YtkolhpacpbhceaaDoorW.PrintLast Go.Proofs.YtkolhpacpbhceaaDoorW.PrintMore Go.Proofs.YtkolhpacpbhceaaDoor.Pr Go.Proofs.YtkolhpacpbhceaaDoor.Opn Go.Proofs.YtkolhpacpbhceaaDoor.X Go.Proofs.YtkolhpacpbhceaaDoor.PL
theorem RodReads : rodReadsPure := by
  intro r l t wet tol hr hl ht hw htol
  refine Ev.rounds ?_
  obtain ⟨b, hb, hb2⟩ := few_cases r l t
  have haw : Ev (fun _ : Nat => spilelaw14_awake.f) true := Ev.now _
  refine evb haw (evp rfl (evb (evc (fun _ => rfl) hb) ?_))
  cases b with
  | false => exact evn (by simp) (Ev.now _)
  | true =>
    obtain ⟨hnr, hnl⟩ := hb2 rfl
    obtain ⟨x, x1, x2, _⟩ := reading_both r wet (by omega)
    obtain ⟨y, y1, y2, _⟩ := compare_both r l t tol (by omega) (by omega)
    obtain ⟨z, z1, z2, _⟩ := rod_both r (by omega)
    have hc : Ev (fun _ : Nat => slices_Clone39.f r) r := evc (fun _ => rfl) (clone_eq hnr)
    exact evp rfl (evb hc (evb x1 (evb x2 (evb hc (evb (evc (fun _ => rfl) (copy_eq t hnl)) (evb y1 (evb y2 (evp (by simp) (evp rfl (evp rfl (evp rfl (evb hc (evb z1 (evb z2 (evr (by simp))))))))))))))))
end Go.Proofs.YtkolhpacpbhceaaDoor.Pure
namespace Go.Proofs.YtkolhpacpbhceaaDoor.X
open Go
variable {H : Type} {enc : TypeId × Value → H}
theorem wrap_shaped {a : Assume} {C : Checked} {os : Os} {f : FuncId} {fn : Func} {s : ChangeSpec} {conds : List PathCond} {apart fresh handsOn again : Bool} {X : World → Array Value → Prop}
    (hX : ∀ (w w' : World) (args : Array Value), w.heap = w'.heap → X w args → X w' args)
    (own : ownKnob C.prog.godebug = none) (started : os.Started) (noInit : C.prog.inits.idxOf? f = none) (hfn : C.prog.funcs[f]? = some fn)
    (witness : ∃ (w : World) (tape : Tape) (i : Input), w.os = os ∧ (w.forCall tape i).Shaped C.prog ∧ i.vars = [] ∧ Input.okWide C.prog (w.forCall tape i) .any w.heap.size f i ∧
      ((s.pre enc C.prog fn conds apart (w.forCall tape i).memory i.args ∧ X (w.forCall tape i).memory i.args) ∧ sizedMet enc C.prog fn (OpenSpec.ofChange s) apart (w.forCall tape i).memory i.args) ∧ a.holds C.prog (lone (Frame.enter C.prog f i.args .normal) [] (w.forCall tape i)))
    (walk : ∀ (W : World) (base : Nat) (args : Array Value) (ds gs : List (DataW H)) (before : List MemPlace),
      (∀ (j : Nat) t v, fn.params[j]? = some t → args[j]? = some v → Value.okWide C.prog W .any base t v) →
      DataW.Whole enc C.prog fn.params.toList s.vars apart W args.toList ds gs before → X W args → W.ShapedOpen C.prog →
      Calls C.prog f args W fun e W' => ∃ v, e = .returned v ∧ s.post enc C.prog fn apart fresh handsOn again W args v W') :
    ReturnsInHanded a C os f .any (fun w args => (s.pre enc C.prog fn conds apart w args ∧ X w args) ∧ sizedMet enc C.prog fn (OpenSpec.ofChange s) apart w args) (s.post enc C.prog fn apart fresh handsOn again) := by
  refine returnsInHanded_of_calls own started noInit witness ?_
  intro w tape i _ hsh _ hok hpre _
  obtain ⟨_, _, _, fn', hfn', _, _, _, _, hval⟩ := hok
  obtain rfl : fn' = fn := Option.some.inj (hfn'.symm.trans hfn)
  obtain ⟨⟨⟨ds, gs, before, hw, _⟩, hx⟩, _⟩ := hpre
  refine (walk (w.forCall tape i) w.heap.size i.args ds gs before hval (DataW.Whole.of_heap (w' := w.forCall tape i) (by rfl) hw) (hX _ _ _ (by rfl) hx) hsh).mono fun e W' ⟨v, he, hp⟩ => ?_
  subst he
  exact ChangeSpec.post_blind hp
end Go.Proofs.YtkolhpacpbhceaaDoor.X
namespace Go.Proofs.YtkolhpacpbhceaaDoor.rodReads
open Go Go.ChangeShapes Go.WideShapes Go.ChangeAt Go.RowKit
open Go.ChangeMaps (open_string shut_string)
open Go.Proofs.YtkolhpacpbhceaaDoorW.PrintWords Go.Proofs.YtkolhpacpbhceaaDoor.O Go.Proofs.YtkolhpacpbhceaaDoor.Opn Go.Proofs.YtkolhpacpbhceaaDoor.Pr Go.Proofs.YtkolhpacpbhceaaDoor.X
theorem own : ownKnob Tryd.prog.godebug = none := by kernel_rfl
theorem laidOut : laidOutB Tryd.prog = true := by kernel_rfl
abbrev laidL : List (String × DataW Unit) := [("math/bits.deBruijn32tab", Rows.laid_math_bits_deBruijn32tab), ("math/bits.deBruijn64tab", Rows.laid_math_bits_deBruijn64tab), ("internal/strconv.uint64pow10", Rows.laid_internal_strconv_uint64pow10)]
set_option maxRecDepth 100000 in
theorem lifted (os : Os) (started : os.Started) (H : Type) (enc : TypeId × Value → H) :
    ReturnsInHanded {} Tryd.checked os 4 .any (fun w args => (Rows.rodReadsSpec.pre enc Tryd.prog Tryd.f4 [] false w args ∧ laidMetH Tryd.prog laidL w) ∧ sizedMet enc Tryd.prog Tryd.f4 (OpenSpec.ofChange Rows.rodReadsSpec) false w args)
      (Rows.rodReadsSpec.post enc Tryd.prog Tryd.f4 false true false false) := by
  refine wrap_shaped (C := Tryd.checked) (X := (fun w _ => laidMetH Tryd.prog laidL w)) (fun _ _ _ hh h => h.of_heap hh) own started (by kernel_rfl) Tryd.func4
    (ChangeSpec.witness_shaped (enc := enc) (C := Tryd.checked) (os := os) (X := (fun w _ => laidMetH Tryd.prog laidL w)) false (World.laidAll Tryd.prog os laidL) #[.slice none 0 0, .agg #[.slice none 0 0, .int .i64 0], .int .i64 0, .int .i64 0] 8 (World.laidAll_os _ _ _) (World.shaped_of_ZipB (by kernel_rfl) (by kernel_rfl)) (by kernel_rfl) (by kernel_rfl) (by kernel_rfl) (by rw [MakeChecks.laidMetH_plain _ _ _ (by kernel_rfl)]; exact laidMet_laidAll _ (by kernel_rfl) (by kernel_rfl))) ?_
  intro W base args ds gs before hval0 hW hL hsh
  have hval : ∀ (j : Nat) t v, Tryd.f4.params[j]? = some t → args[j]? = some v → Value.okWide Tryd.prog W .any base t v := hval0
  have hW' := hW
  obtain ⟨p, q, hA0, hV, rfl, hfz, hnd⟩ := hW
  have hA : DataW.TrodAll enc Tryd.prog W 0 (fun _ => true) true Tryd.f4.params.toList args.toList ds p := hA0
  rw [Tryd.params4] at hA hval
  obtain ⟨v0, vs0, d0, ds0, p0, q0, hargs, rfl, rfl, h0, r0⟩ := trodAll_cons hA
  obtain ⟨v1, vs1, d1, ds1, p1, q1, rfl, rfl, rfl, h1, r1⟩ := trodAll_cons r0
  obtain ⟨v2, vs2, d2, ds2, p2, q2, rfl, rfl, rfl, h2, r2⟩ := trodAll_cons r1
  obtain ⟨v3, vs3, d3, ds3, p3, q3, rfl, rfl, rfl, h3, r3⟩ := trodAll_cons r2
  obtain ⟨rfl, rfl, rfl⟩ := trodAll_nil r3
  obtain rfl : args = #[v0, v1, v2, v3] := by cases args; simp_all
  obtain ⟨rfl, rfl⟩ := trodVars_none hV
  obtain ⟨a0_, len0_, cap0_, rfl⟩ := okWide_slice Tryd.underlying22 (hval 0 22 v0 rfl rfl)
  have k0 := h0
  have lt0 : ∀ x ∈ p0, x.block < W.heap.size := by obtain ⟨m, hm⟩ := k0; exact DataW.trod_lt m _ _ _ hm
  obtain ⟨l0, K0, ok0⟩ : ∃ x, (Kd.slice 39 k39).K W x [.slice a0_ len0_ cap0_] ∧ (x.length ≤ maxLen ∧ ∀ x0_, x0_ ∈ x → ok39 x0_) := by
    obtain ⟨fuel, hf⟩ := h0
    exact opens22.2 _ _ _ _ _ _ _ _ _ hf
  obtain ⟨A0, c0, e0, g0, hr0⟩ := K0
  simp only [List.cons.injEq, Value.slice.injEq, and_true] at e0
  obtain ⟨rfl, rfl, rfl⟩ := e0
  obtain ⟨cs1, rfl, _⟩ := okWide_struct Tryd.underlying24 (hval 1 24 v1 rfl rfl)
  have k1 := h1
  have lt1 : ∀ x ∈ p1, x.block < W.heap.size := by obtain ⟨m, hm⟩ := k1; exact DataW.trod_lt m _ _ _ hm
  obtain ⟨x1, K1, ok1⟩ : ∃ x, k24.K W x cs1.toList ∧ ok24 x := by
    obtain ⟨fuel, hf⟩ := h1
    exact opens24.2 _ _ _ _ _ _ _ _ _ hf
  obtain ⟨A1_0, c1_0, e1, g1_0, hr1_0⟩ := k24_open K1
  obtain rfl : cs1 = #[.slice A1_0 (x1.f0).length c1_0, .int .i64 (x1.f1)] := by cases cs1; simpa using e1
  obtain ⟨a2, rfl, rfl, rfl, w2⟩ := open_int Tryd.underlying3 (hval 2 3 v2 rfl rfl) h2
  obtain ⟨a3, rfl, rfl, rfl, w3⟩ := open_int Tryd.underlying3 (hval 3 3 v3 rfl rfl) h3
  clear hA0 hval0
  obtain ⟨k, hp⟩ := Pure.RodReads l0 (x1.f0) (x1.f1) a2 a3 ok0 ok1.1 ok1.2 w2 w3
  have hG : GI W := GI.of_laid laidL (by simp [laidL]) hL hsh
  refine (spilelaw14_RodReads.calls k _ _ l0 _ _ (x1.f0) (x1.f1) a2 a3 true W hr0 g0 hr1_0 g1_0 hG rfl hp).mono fun e W' ⟨he, bel⟩ => ?_
  subst he
  exact ⟨_, rfl, _, _, _, [], _, [], hW', trodAll_mk1 (shut_bool Tryd.underlying4 _), (trodAll_cons_mk (Below.trod laidOut (by kernel_rfl) (of_decide_eq_true (by kernel_rfl)) k0 bel lt0) (trodAll_cons_mk (Below.trod laidOut (by kernel_rfl) (of_decide_eq_true (by kernel_rfl)) k1 bel lt1) (trodAll_cons_mk (shut_int Tryd.underlying3 w2) (trodAll_cons_mk (shut_int Tryd.underlying3 w3) trodAll_mk0)))), rfl, bel.frame _, fun h => by cases h⟩
theorem holds : Rows.RodReadsSaid :=
  OpenClaim.holds_of_wide 4 Tryd.f4 rfl rfl rfl rfl rfl rfl rfl ⟨rfl, rfl, rfl, rfl, rfl⟩ rfl rfl rfl rfl rfl (by kernel_rfl) Tryd.func4 (by kernel_rfl)
    (of_decide_eq_true (by kernel_rfl)) (by unfold Func.isWrapper; first | (rw [if_pos (by decide +kernel)]; kernel_rfl) | (rw [if_neg (by decide +kernel)]; exact ⟨rfl, rfl⟩))
    (fun os started H enc _ => lifted os started H enc)
theorem card : Rows.RodReadsCardSaid :=
  Claim7.holds_tied_plain_at .later [] [.data, .data, .data] true (true, "ffac5e0cc8868b2e00f9950da871680f8663d7526cb1afae6a9e6c162e8ee000") false
    holds (fun _ h => by cases h) (by kernel_rfl) (fun _ h => by cases h) rodReads_row_tie rfl ⟨rfl, rfl⟩ (by kernel_rfl) rfl
    (fun f fn hf hfn => by
      obtain rfl : f = 4 := Option.some.inj ((show Tryd.prog.funcNamed "spile/spilelaw14.RodReads" = some 4 by kernel_rfl).symm.trans hf) |>.symm
      obtain rfl : fn = Tryd.f4 := (Option.some.inj (Tryd.func4.symm.trans hfn)).symm
      exact ⟨by kernel_rfl, fun j t ht => by
        rw [Tryd.params4] at ht
        have hm : t ∈ [22, 24, 3, 3] := by simpa using Array.mem_of_getElem? ht
        have hall : ([22, 24, 3, 3].all fun u => !Tryd.prog.wantsStandIn u) = true := by kernel_rfl
        exact (show Tryd.prog.wantsStandIn t = false by simpa using List.all_eq_true.1 hall t hm)⟩)
    (by kernel_rfl)
end Go.Proofs.YtkolhpacpbhceaaDoor.rodReads
namespace Go.Proofs.YtkolhpacpbhceaaDoor
/-- The card, under a short name, for the claim. -/
theorem rodReads_holds : Rows.RodReadsCardSaid := rodReads.card
#print axioms rodReads_holds
end Go.Proofs.YtkolhpacpbhceaaDoor
