/-
The law LotPlaces returns true for every input that can be read as data, and leaves its arguments as they were: the row, and the card that ties the listed variables to the program's text.
No condition of its own beyond those that the given row prints.
-/
import Derived.Test.YtgjoenoknknoiaaDoorCards
import Derived.Test.YtgjoenoknknoiaaDoorTie
import Derived.ProofKit
import Derived.OpenShut
import Derived.ShutString
import Derived.ChangeOld
import Derived.SizedLaws
import Derived.LaidMore
import Derived.Handed
import Derived.SevenTiedAt
import Derived.LaidSub
import Derived.LaidOnce
import Derived.Stop.Joined
import Derived.Stop.LaidErr
import Derived.Test.YtgjoenoknknoiaaDoorLotPlacesF
set_option linter.unusedVariables false
set_option linter.unusedSimpArgs false
namespace Go.Proofs.YtgjoenoknknoiaaDoor.PL
open Go Go.RowKit Go.Proofs.YtgjoenoknknoiaaDoorW.PrintWords Go.Proofs.YtgjoenoknknoiaaDoorW.PrintLast Go.Proofs.YtgjoenoknknoiaaDoorW.PrintMore Go.Proofs.YtgjoenoknknoiaaDoor.Pr Go.Proofs.YtgjoenoknknoiaaDoor.Opn
def PlainP (a b : Int) : Prop := 0 ≤ a ∧ a ≤ 10737418240000 ∧ 0 ≤ b ∧ b ≤ 128849018880000 ∧ (0 < b ∨ a = 0)
instance (a b : Int) : Decidable (PlainP a b) := by unfold PlainP; infer_instance
theorem mix_plain_eq (a b : Int) : mix_plain.f a b = some (decide (PlainP a b)) := by
  unfold mix_plain.f PlainP
  repeat' split
  all_goals first
    | (refine congrArg some (Eq.symm (decide_eq_true ?_)); omega)
    | (refine congrArg some (Eq.symm (decide_eq_false ?_)); omega)
    | (refine congrArg some ?_
       by_cases h : a = 0
       · rw [show (a == 0) = true from by simpa using h]; exact (decide_eq_true (by omega)).symm
       · rw [show (a == 0) = false from by simpa using h]; exact (decide_eq_false (by omega)).symm)
theorem ref_plain_eq (a b : Int) : spileref21_Plain.f a b = some (decide (PlainP a b)) := mix_plain_eq a b
theorem wf64 {x : Int} (h : (Lit.int .i64 x).wf = true) : -9223372036854775808 ≤ x ∧ x ≤ 9223372036854775807 := by
  have h2 := h
  simp [Lit.wf, IntKind.min, IntKind.max, IntKind.signed, IntKind.bits] at h2
  exact ⟨by omega, by omega⟩
/-- A liquid alone: plain by the mixture of one. -/
theorem lot_plain_ev (a b : Int) (ha : -9223372036854775808 ≤ a ∧ a ≤ 9223372036854775807) (hb : -9223372036854775808 ≤ b ∧ b ≤ 9223372036854775807) : Ev (fun k => lot_plain.f k a b) (decide (PlainP a b)) := by
  have r0 : rd_T26 [(⟨a, b⟩ : S26)] 0 = ⟨a, b⟩ := rfl
  have hc : Ev (fun k => api_Liquid_69_at_70.f k [(⟨a, b⟩ : S26)]) (decide (¬ PlainP a b)) := by
    by_cases hp : PlainP a b
    · have : Ev (fun k => api_Liquid_78_at_70.f k [(⟨a, b⟩ : S26)]) (-1) := by
        refine Ev.step (fun k => api_Liquid_78_at_70.l0.eq_2 ..) (evp (by simp) (evp (by decide) (evp (by simp) (evb (a := false) ?_ (evn (by simp) ?_)))))
        · refine evc (fun _ => rfl) ?_
          rw [r0]
          unfold mix_Sum_1.f
          rw [mix_plain_eq, decide_eq_true hp]
          rfl
        · exact Ev.step (fun k => api_Liquid_78_at_70.l0.eq_2 ..) (evn (by simp [wrap64]) (Ev.now _))
      rw [decide_eq_false (fun h => h hp)]
      exact evb this (evr (by decide))
    · have : Ev (fun k => api_Liquid_78_at_70.f k [(⟨a, b⟩ : S26)]) 0 := by
        refine Ev.step (fun k => api_Liquid_78_at_70.l0.eq_2 ..) (evp (by simp) (evp (by decide) (evp (by simp) (evb (a := true) ?_ (evp rfl (Ev.now _))))))
        refine evc (fun _ => rfl) ?_
        rw [r0]
        unfold mix_Sum_1.f
        rw [mix_plain_eq, decide_eq_false hp]
        rfl
      rw [decide_eq_true hp]
      exact evb this (evr (by decide))
  have ht : Ev (fun k => mix_total.f k [(⟨a, b⟩ : S26)]) (a, b) := by
    refine Ev.step (fun k => mix_total.l0.eq_2 ..) (evp (by simp) (evp (by decide) (evp (by simp) ?_)))
    rw [r0]
    refine Ev.step (fun k => mix_total.l0.eq_2 ..) (evn (by simp [wrap64]) (evr ?_))
    show (wrap64 (0 + a), wrap64 (0 + b)) = (a, b)
    rw [w64 (by omega) (by omega), w64 (by omega) (by omega)]
    simp
  by_cases hp : PlainP a b
  · rw [decide_eq_false (fun h => h hp)] at hc
    rw [decide_eq_true hp]
    refine evb (a := (a, b, 0)) ?_ (evr (by simp))
    refine evn (by simp) (evb hc (evn (by simp) (evb ht (evb (a := true) (evc (fun _ => rfl) ?_) (evp rfl (Ev.now _))))))
    rw [mix_plain_eq, decide_eq_true hp]
  · rw [decide_eq_true hp] at hc
    rw [decide_eq_false hp]
    refine evb (a := (0, 0, 1)) ?_ (evr (by simp))
    exact evn (by simp) (evb hc (evp rfl (Ev.now _)))
/-- The shares of a lot. -/
theorem shares_both (l : List S35) (hl : (l.length : Int) ≤ 9223372036854775807) (a0 a1 a2 : Int) : ∀ i, 0 ≤ i → i ≤ (l.length : Int) → ∀ s,
    ∃ e, Ev (fun k => spileref22_Shares.l0 k l i) e ∧ (e ≠ 0 → Ev (fun k => lot_shares.l0 k s l (l.length : Int) i a0 a1 a2 l) e) ∧
      (e = 0 → ∃ t, Ev (fun k => spileref22_Alcohol.l0 k l s i) t ∧ Ev (fun k => lot_shares.l0 k s l (l.length : Int) i a0 a1 a2 l) (if t = a1 then 0 else 14)) := by
  refine count_up 0 (l.length : Int) _ ?_ ?_
  · intro s
    refine ⟨0, Ev.step (fun k => spileref22_Shares.l0.eq_2 ..) (evn (by omega) (Ev.now _)), fun h => absurd rfl h, fun _ => ⟨s, Ev.step (fun k => spileref22_Alcohol.l0.eq_2 ..) (evn (by omega) (Ev.now _)), ?_⟩⟩
    refine Ev.step (fun k => lot_shares.l0.eq_2 ..) (evn (by omega) ?_)
    by_cases h : s = a1
    · rw [show (if s = a1 then (0 : Int) else 14) = 0 from if_pos h]; exact evp h (Ev.now _)
    · rw [show (if s = a1 then (0 : Int) else 14) = 14 from if_neg h]; exact evn h (Ev.now _)
  · intro i h0 h1 ih s
    have hw := w64_succ h0 h1 hl
    by_cases c1 : (rd_T35 l i).f0 < 1
    · exact ⟨10, Ev.step (fun k => spileref22_Shares.l0.eq_2 ..) (evp h1 (evp h0 (evp c1 (Ev.now _)))), fun _ => Ev.step (fun k => lot_shares.l0.eq_2 ..) (evp h1 (evp h0 (evp h1 (evp c1 (Ev.now _))))), fun h => absurd h (by decide)⟩
    by_cases c2 : (rd_T35 l i).f0 > 1073741824
    · exact ⟨10, Ev.step (fun k => spileref22_Shares.l0.eq_2 ..) (evp h1 (evp h0 (evn c1 (evp c2 (Ev.now _))))), fun _ => Ev.step (fun k => lot_shares.l0.eq_2 ..) (evp h1 (evp h0 (evp h1 (evn c1 (evp c2 (Ev.now _)))))), fun h => absurd h (by decide)⟩
    by_cases c3 : (rd_T35 l i).f1 < 1
    · exact ⟨10, Ev.step (fun k => spileref22_Shares.l0.eq_2 ..) (evp h1 (evp h0 (evn c1 (evn c2 (evp c3 (Ev.now _)))))), fun _ => Ev.step (fun k => lot_shares.l0.eq_2 ..) (evp h1 (evp h0 (evp h1 (evn c1 (evn c2 (evp c3 (Ev.now _))))))), fun h => absurd h (by decide)⟩
    by_cases c4 : (rd_T35 l i).f1 > 10737418240000
    · exact ⟨10, Ev.step (fun k => spileref22_Shares.l0.eq_2 ..) (evp h1 (evp h0 (evn c1 (evn c2 (evn c3 (evp c4 (Ev.now _))))))), fun _ => Ev.step (fun k => lot_shares.l0.eq_2 ..) (evp h1 (evp h0 (evp h1 (evn c1 (evn c2 (evn c3 (evp c4 (Ev.now _)))))))), fun h => absurd h (by decide)⟩
    obtain ⟨e, q1, q2, q3⟩ := ih (wrap64 (s + (rd_T35 l i).f1))
    rw [← hw] at q1 q2 q3
    by_cases c5 : i > 0
    · have hp := w64_pred h0 (Int.le_of_lt h1) hl
      have p0 : 0 ≤ wrap64 (i - 1) := by rw [hp]; omega
      have p1 : wrap64 (i - 1) < (l.length : Int) := by rw [hp]; omega
      by_cases c6 : (rd_T35 l i).f0 ≤ (rd_T35 l (wrap64 (i - 1))).f0
      · exact ⟨10, Ev.step (fun k => spileref22_Shares.l0.eq_2 ..) (evp h1 (evp h0 (evn c1 (evn c2 (evn c3 (evn c4 (evp c5 (evp p0 (evp p1 (evp c6 (Ev.now _)))))))))) ), fun _ => Ev.step (fun k => lot_shares.l0.eq_2 ..) (evp h1 (evp h0 (evp h1 (evn c1 (evn c2 (evn c3 (evn c4 (evp c5 (evp p0 (evp p1 (evp c6 (Ev.now _))))))))))) ), fun h => absurd h (by decide)⟩
      · refine ⟨e, Ev.step (fun k => spileref22_Shares.l0.eq_2 ..) (evp h1 (evp h0 (evn c1 (evn c2 (evn c3 (evn c4 (evp c5 (evp p0 (evp p1 (evn c6 q1)))))))))), fun h => Ev.step (fun k => lot_shares.l0.eq_2 ..) (evp h1 (evp h0 (evp h1 (evn c1 (evn c2 (evn c3 (evn c4 (evp c5 (evp p0 (evp p1 (evn c6 (q2 h)))))))))))), fun h => ?_⟩
        obtain ⟨t, q4, q5⟩ := q3 h
        exact ⟨t, Ev.step (fun k => spileref22_Alcohol.l0.eq_2 ..) (evp h1 (evp h0 q4)), Ev.step (fun k => lot_shares.l0.eq_2 ..) (evp h1 (evp h0 (evp h1 (evn c1 (evn c2 (evn c3 (evn c4 (evp c5 (evp p0 (evp p1 (evn c6 q5)))))))))))⟩
    · refine ⟨e, Ev.step (fun k => spileref22_Shares.l0.eq_2 ..) (evp h1 (evp h0 (evn c1 (evn c2 (evn c3 (evn c4 (evn c5 q1))))))), fun h => Ev.step (fun k => lot_shares.l0.eq_2 ..) (evp h1 (evp h0 (evp h1 (evn c1 (evn c2 (evn c3 (evn c4 (evn c5 (q2 h))))))))), fun h => ?_⟩
      obtain ⟨t, q4, q5⟩ := q3 h
      exact ⟨t, Ev.step (fun k => spileref22_Alcohol.l0.eq_2 ..) (evp h1 (evp h0 q4)), Ev.step (fun k => lot_shares.l0.eq_2 ..) (evp h1 (evp h0 (evp h1 (evn c1 (evn c2 (evn c3 (evn c4 (evn c5 q5))))))))⟩
/-- What is right in a lot's numbers. -/
def Wf33 (x : S33) : Prop := (-9223372036854775808 ≤ x.f1.f0 ∧ x.f1.f0 ≤ 9223372036854775807) ∧ (-9223372036854775808 ≤ x.f1.f1 ∧ x.f1.f1 ≤ 9223372036854775807) ∧ (x.f2.length : Int) ≤ 9223372036854775807
theorem shares_f_both (x : S33) (h : Wf33 x) : ∃ e, Ev (fun k => spileref22_Shares.f k x.f2) e ∧ (e ≠ 0 → Ev (fun k => lot_shares.f k x.f0 x.f1.f0 x.f1.f1 x.f2) e) ∧
    (e = 0 → ∃ t, Ev (fun k => spileref22_Alcohol.f k x.f2) t ∧ Ev (fun k => lot_shares.f k x.f0 x.f1.f0 x.f1.f1 x.f2) (if t = x.f1.f0 then 0 else 14)) := by
  by_cases c : (x.f2.length : Int) > 32
  · exact ⟨12, evp c (Ev.now _), fun _ => evp c (Ev.now _), fun h => absurd h (by decide)⟩
  · obtain ⟨e, q1, q2, q3⟩ := shares_both x.f2 h.2.2 x.f0 x.f1.f0 x.f1.f1 0 (by omega) (by omega) 0
    refine ⟨e, evn c q1, fun h => evn c (q2 h), fun h => ?_⟩
    obtain ⟨t, q4, q5⟩ := q3 h
    exact ⟨t, q4, evn c q5⟩
/-- A lot's fault, but for its number and place: both sides alike. -/
theorem one_both (x : S33) (h : Wf33 x) : ∃ e, Ev (fun k => spileref22_One.f k x.f0 x.f1.f0 x.f1.f1 x.f2) e ∧ Ev (fun k => lot_fault.j1 k false x.f0 x.f1.f0 x.f1.f1 x.f2) e := by
  have hp := lot_plain_ev x.f1.f0 x.f1.f1 h.1 h.2.1
  by_cases c : PlainP x.f1.f0 x.f1.f1
  · rw [decide_eq_true c] at hp
    have hr : Ev (fun _ : Nat => spileref21_Plain.f x.f1.f0 x.f1.f1) true := evc (fun _ => rfl) (by rw [ref_plain_eq, decide_eq_true c])
    by_cases c2 : x.f1.f1 = 0
    · refine ⟨1, evb hr (evp rfl (Ev.step (fun k => spileref22_One.j0.eq_2 ..) (evp (by simpa using c2) (Ev.now _)))), Ev.step (fun k => lot_fault.j1.eq_2 ..) (evn (by simp) (evb hp (evp rfl (evp c2 (Ev.now _)))))⟩
    · have c3 : ¬ (x.f1.f1 == 0) = true := by simpa using c2
      obtain ⟨e, q1, q2, q3⟩ := shares_f_both x h
      by_cases he : e = 0
      · obtain ⟨t, q4, q5⟩ := q3 he
        refine ⟨if t = x.f1.f0 then 0 else 14, evb hr (evp rfl (Ev.step (fun k => spileref22_One.j0.eq_2 ..) (evn c3 (evb q1 (evp he (evb q4 ?_)))))), Ev.step (fun k => lot_fault.j1.eq_2 ..) (evn (by simp) (evb hp (evp rfl (evn c2 (evb q5 (Ev.now _))))))⟩
        by_cases ht : t = x.f1.f0
        · rw [show (if t = x.f1.f0 then (0 : Int) else 14) = 0 from if_pos ht]; exact evp ht (Ev.now _)
        · rw [show (if t = x.f1.f0 then (0 : Int) else 14) = 14 from if_neg ht]; exact evn ht (Ev.now _)
      · exact ⟨e, evb hr (evp rfl (Ev.step (fun k => spileref22_One.j0.eq_2 ..) (evn c3 (evb q1 (evn he (Ev.now _)))))), Ev.step (fun k => lot_fault.j1.eq_2 ..) (evn (by simp) (evb hp (evp rfl (evn c2 (evb (q2 he) (Ev.now _))))))⟩
  · rw [decide_eq_false c] at hp
    have hr : Ev (fun _ : Nat => spileref21_Plain.f x.f1.f0 x.f1.f1) false := evc (fun _ => rfl) (by rw [ref_plain_eq, decide_eq_false c])
    exact ⟨1, evb hr (evn (by simp) (Ev.step (fun k => spileref22_One.j0.eq_2 ..) (evp rfl (Ev.now _)))), Ev.step (fun k => lot_fault.j1.eq_2 ..) (evn (by simp) (evb hp (evn (by simp) (Ev.now _))))⟩
theorem id_eq (x : Int) : spileref22_ID.f x = some (decide (1 ≤ x ∧ x ≤ 1073741824)) := by
  unfold spileref22_ID.f
  by_cases h : x ≥ 1
  · rw [if_pos h]
    by_cases h2 : x ≤ 1073741824
    · rw [decide_eq_true h2, decide_eq_true (⟨h, h2⟩ : 1 ≤ x ∧ x ≤ 1073741824)]
    · rw [decide_eq_false h2, decide_eq_false (fun q => h2 q.2)]
  · rw [if_neg h, decide_eq_false (fun q => h q.1)]
theorem check_loop (l : List S33) (hl : (l.length : Int) ≤ 9223372036854775807) (hw : ∀ i, 0 ≤ i → i < (l.length : Int) → Wf33 (rd_T33 l i)) : ∀ i, 0 ≤ i → i ≤ (l.length : Int) →
    ∃ r, Ev (fun k => lot_Check.l0 k l (l.length : Int) i) r ∧ Ev (fun k => spileref22_Check.l0 k l i) r := by
  refine count_up 0 (l.length : Int) _ ?_ ?_
  · exact ⟨(-1, 0), Ev.step (fun k => lot_Check.l0.eq_2 ..) (evn (by omega) (Ev.now _)), Ev.step (fun k => spileref22_Check.l0.eq_2 ..) (evn (by omega) (Ev.now _))⟩
  · intro i h0 h1 ih
    obtain ⟨r, q1, q2⟩ := ih
    rw [← w64_succ h0 h1 hl] at q1 q2
    by_cases c1 : (rd_T33 l i).f0 < 1
    · refine ⟨(i, 2), Ev.step (fun k => lot_Check.l0.eq_2 ..) (evp h1 (evb (a := 2) (evp h0 (evp h1 (evp c1 (Ev.step (fun k => lot_fault.j0.eq_2 ..) (evp rfl (Ev.now _)))))) (evn (by decide) (Ev.now _)))), Ev.step (fun k => spileref22_Check.l0.eq_2 ..) (evp h1 (evp h0 (evb (a := false) (evc (fun _ => rfl) ?_) (evn (by simp) (Ev.now _)))))⟩
      rw [id_eq, decide_eq_false (by omega)]
    by_cases c2 : (rd_T33 l i).f0 > 1073741824
    · refine ⟨(i, 2), Ev.step (fun k => lot_Check.l0.eq_2 ..) (evp h1 (evb (a := 2) (evp h0 (evp h1 (evn c1 (Ev.step (fun k => lot_fault.j0.eq_2 ..) (evp (decide_eq_true c2) (Ev.now _)))))) (evn (by decide) (Ev.now _)))), Ev.step (fun k => spileref22_Check.l0.eq_2 ..) (evp h1 (evp h0 (evb (a := false) (evc (fun _ => rfl) ?_) (evn (by simp) (Ev.now _)))))⟩
      rw [id_eq, decide_eq_false (by omega)]
    have hid : Ev (fun _ : Nat => spileref22_ID.f (rd_T33 l i).f0) true := evc (fun _ => rfl) (by rw [id_eq, decide_eq_true (by omega)])
    have c2' : ¬ decide ((rd_T33 l i).f0 > 1073741824) = true := by simpa using c2
    obtain ⟨e, o1, o2⟩ := one_both (rd_T33 l i) (hw i h0 h1)
    have fin : ∀ (g : Nat → Option Int), Ev g e → ∀ (g2 : Nat → Option Int), Ev g2 e → ∃ r2, Ev (fun k => (g k).bind fun t => if t = 0 then lot_Check.l0 k l (l.length : Int) (wrap64 (i + 1)) else some (i, t)) r2 ∧ Ev (fun k => (g2 k).bind fun t => if t = 0 then spileref22_Check.l0 k l (wrap64 (i + 1)) else some (i, t)) r2 := by
      intro g hg g2 hg2
      by_cases he : e = 0
      · exact ⟨r, evb hg (evp he q1), evb hg2 (evp he q2)⟩
      · exact ⟨(i, e), evb hg (evn he (Ev.now _)), evb hg2 (evn he (Ev.now _))⟩
    by_cases c3 : i > 0
    · have hp := w64_pred h0 (Int.le_of_lt h1) hl
      have p0 : 0 ≤ wrap64 (i - 1) := by rw [hp]; omega
      have p1 : wrap64 (i - 1) < (l.length : Int) := by rw [hp]; omega
      by_cases c4 : (rd_T33 l i).f0 ≤ (rd_T33 l (wrap64 (i - 1))).f0
      · have F : Ev (fun k => lot_fault.f k l i) 5 := by
          refine evp h0 (evp h1 (evn c1 (Ev.step (fun k => lot_fault.j0.eq_2 ..) ?_)))
          refine evn c2' (evp c3 (evp p0 (evp p1 (Ev.step (fun k => lot_fault.j1.eq_2 ..) ?_))))
          exact evp (decide_eq_true c4) (Ev.now _)
        refine ⟨(i, 5), Ev.step (fun k => lot_Check.l0.eq_2 ..) (evp h1 (evb F (evn (by decide) (Ev.now _)))), Ev.step (fun k => spileref22_Check.l0.eq_2 ..) (evp h1 (evp h0 (evb hid (evp rfl ?_))))⟩
        exact evp c3 (evp p0 (evp p1 (Ev.step (fun k => spileref22_Check.j1.eq_2 ..) (evp (decide_eq_true c4) (Ev.now _)))))
      · have hd : decide ((rd_T33 l (wrap64 (i - 1))).f0 ≥ (rd_T33 l i).f0) = false := decide_eq_false c4
        have hd2 : ¬ decide ((rd_T33 l i).f0 ≤ (rd_T33 l (wrap64 (i - 1))).f0) = true := by simpa using c4
        have F : Ev (fun k => lot_fault.f k l i) e := by
          refine evp h0 (evp h1 (evn c1 (Ev.step (fun k => lot_fault.j0.eq_2 ..) ?_)))
          refine evn c2' (evp c3 (evp p0 (evp p1 ?_)))
          rw [hd]
          exact o2
        obtain ⟨r2, f1, f2⟩ := fin _ F _ o1
        refine ⟨r2, Ev.step (fun k => lot_Check.l0.eq_2 ..) (evp h1 f1), Ev.step (fun k => spileref22_Check.l0.eq_2 ..) (evp h1 (evp h0 (evb hid (evp rfl ?_))))⟩
        exact evp c3 (evp p0 (evp p1 (Ev.step (fun k => spileref22_Check.j1.eq_2 ..) (evn hd2 (evp h0 (evp h1 f2))))))
    · have F : Ev (fun k => lot_fault.f k l i) e := by
        refine evp h0 (evp h1 (evn c1 (Ev.step (fun k => lot_fault.j0.eq_2 ..) ?_)))
        exact evn c2' (evn c3 o2)
      obtain ⟨r2, f1, f2⟩ := fin _ F _ o1
      refine ⟨r2, Ev.step (fun k => lot_Check.l0.eq_2 ..) (evp h1 f1), Ev.step (fun k => spileref22_Check.l0.eq_2 ..) (evp h1 (evp h0 (evb hid (evp rfl ?_))))⟩
      exact evn c3 (Ev.step (fun k => spileref22_Check.j1.eq_2 ..) (evn (by simp) (evp h0 (evp h1 f2))))
theorem check_both (l : List S33) (hl : (l.length : Int) ≤ 9223372036854775807) (hw : ∀ i, 0 ≤ i → i < (l.length : Int) → Wf33 (rd_T33 l i)) :
    ∃ r, Ev (fun k => lot_Check.f k l) r ∧ Ev (fun k => spileref22_Check.f k l) r := by
  by_cases c : (l.length : Int) > 32
  · exact ⟨(-1, 8), evp c (Ev.now _), evp c (Ev.now _)⟩
  · obtain ⟨r, q1, q2⟩ := check_loop l hl hw 0 (by omega) (by omega)
    exact ⟨r, evn c q1, evn c q2⟩
def Few12 (l : List S35) : Prop := (l.length : Int) ≤ 12 ∨ (32 < (l.length : Int) ∧ (l.length : Int) ≤ 37)
instance (l : List S35) : Decidable (Few12 l) := by unfold Few12; infer_instance
theorem fewShares_eq (l : List S35) : spileref22_FewShares.f l = some (decide (Few12 l)) := by
  unfold spileref22_FewShares.f
  by_cases c : (l.length : Int) ≤ 12
  · rw [if_pos c, decide_eq_true (show Few12 l from Or.inl c)]
  · rw [if_neg c]
    by_cases c2 : (l.length : Int) > 32
    · rw [if_pos c2]
      by_cases c3 : (l.length : Int) ≤ 37
      · rw [decide_eq_true c3, decide_eq_true (show Few12 l from Or.inr ⟨c2, c3⟩)]
      · rw [decide_eq_false c3, decide_eq_false (show ¬ Few12 l from by unfold Few12; omega)]
    · rw [if_neg c2, decide_eq_false (show ¬ Few12 l from by unfold Few12; omega)]
theorem few_ev (l : List S33) (hl : (l.length : Int) ≤ 9223372036854775807) : ∃ b, Ev (fun k => spileref22_Few.f k l) b ∧ (b = true → (l.length : Int) ≤ 37 ∧ ∀ i, 0 ≤ i → i < (l.length : Int) → Few12 (rd_T33 l i).f2) := by
  have loop : ∀ i, 0 ≤ i → i ≤ (l.length : Int) → ∃ b, Ev (fun k => spileref22_Few.l0 k l i) b ∧ (b = true → ∀ j, i ≤ j → j < (l.length : Int) → Few12 (rd_T33 l j).f2) := by
    refine count_up 0 (l.length : Int) _ ?_ ?_
    · exact ⟨true, Ev.step (fun k => spileref22_Few.l0.eq_2 ..) (evn (by omega) (Ev.now _)), fun _ j g0 g1 => by omega⟩
    · intro i h0 h1 ih
      obtain ⟨b, q1, q2⟩ := ih
      rw [← w64_succ h0 h1 hl] at q1
      by_cases c : Few12 (rd_T33 l i).f2
      · refine ⟨b, Ev.step (fun k => spileref22_Few.l0.eq_2 ..) (evp h1 (evp h0 (evb (a := true) (evc (fun _ => rfl) (by rw [fewShares_eq, decide_eq_true c])) (evp rfl q1)))), fun hb j g0 g1 => ?_⟩
        by_cases e : j = i
        · rw [e]; exact c
        · exact q2 hb j (by omega) g1
      · exact ⟨false, Ev.step (fun k => spileref22_Few.l0.eq_2 ..) (evp h1 (evp h0 (evb (a := false) (evc (fun _ => rfl) (by rw [fewShares_eq, decide_eq_false c])) (evn (by simp) (Ev.now _))))), fun h => by cases h⟩
  obtain ⟨b, q1, q2⟩ := loop 0 (by omega) (by omega)
  have tail : ∃ b, Ev (fun k => spileref22_Few.j0 k l (decide ((l.length : Int) > 37))) b ∧ (b = true → (l.length : Int) ≤ 37 ∧ ∀ i, 0 ≤ i → i < (l.length : Int) → Few12 (rd_T33 l i).f2) := by
    by_cases c : (l.length : Int) > 37
    · exact ⟨false, Ev.step (fun k => spileref22_Few.j0.eq_2 ..) (evp (decide_eq_true c) (Ev.now _)), fun h => by cases h⟩
    · exact ⟨b, Ev.step (fun k => spileref22_Few.j0.eq_2 ..) (evn (by simpa using c) q1), fun hb => ⟨by omega, q2 hb⟩⟩
  obtain ⟨b2, t1, t2⟩ := tail
  by_cases c : (l.length : Int) > 8
  · by_cases c2 : (l.length : Int) ≤ 32
    · exact ⟨false, evp c (evp c2 (Ev.step (fun k => spileref22_Few.j0.eq_2 ..) (evp rfl (Ev.now _)))), fun h => by cases h⟩
    · exact ⟨b2, evp c (evn c2 t1), t2⟩
  · exact ⟨b2, evn c t1, t2⟩
theorem sameShares_ev (l : List S35) (hl : (l.length : Int) ≤ 9223372036854775807) : Ev (fun k => spileref22_SameShares.f k l l) true := by
  refine evp rfl (count_up 0 (l.length : Int) (fun i => Ev (fun k => spileref22_SameShares.l0 k l l i) true) ?_ ?_ 0 (by omega) (by omega))
  · exact Ev.step (fun k => spileref22_SameShares.l0.eq_2 ..) (evn (by omega) (Ev.now _))
  · intro i h0 h1 ih
    rw [← w64_succ h0 h1 hl] at ih
    exact Ev.step (fun k => spileref22_SameShares.l0.eq_2 ..) (evp h1 (evp h0 (evp h1 (evn (by simp) ih))))
theorem sameLot_ev (a b c : Int) (l : List S35) (hl : (l.length : Int) ≤ 9223372036854775807) : Ev (fun k => spileref22_SameLot.f k a b c l a b c l) true :=
  evp rfl (evp (by simp) (evb (sameShares_ev l hl) (Ev.now _)))
theorem copied_eq (l : List S35) (h : l.length < 8796093022208) : api_Share.f l = some l := by
  unfold api_Share.f
  simp [h]
end Go.Proofs.YtgjoenoknknoiaaDoor.PL
namespace Go.Proofs.YtgjoenoknknoiaaDoor.PL
open Go Go.RowKit Go.Proofs.YtgjoenoknknoiaaDoorW.PrintWords Go.Proofs.YtgjoenoknknoiaaDoorW.PrintLast Go.Proofs.YtgjoenoknknoiaaDoorW.PrintMore Go.Proofs.YtgjoenoknknoiaaDoor.Pr Go.Proofs.YtgjoenoknknoiaaDoor.Opn
theorem own_eq (x : S33) (h : (x.f2.length : Int) ≤ 37) : lot_own.f x.f0 x.f1.f0 x.f1.f1 x.f2 = some (x.f0, x.f1.f0, x.f1.f1, x.f2) := by
  unfold lot_own.f
  rw [copied_eq _ (by omega)]
  rfl
theorem copy_eq (x : S33) (h : (x.f2.length : Int) ≤ 37) : spileref22_Copy.f x.f0 x.f1.f0 x.f1.f1 x.f2 = some (x.f0, x.f1.f0, x.f1.f1, x.f2) := by
  unfold spileref22_Copy.f
  have : x.f2.length < 8796093022208 := by omega
  simp [this]
theorem rd33 (l : List S33) (i : Nat) (h : i < l.length) : rd_T33 l (i : Int) = l[i] := by
  unfold rd_T33
  simp [List.getD_eq_getElem?_getD, List.getElem?_eq_getElem h]
theorem rd33_mem {l : List S33} {i : Int} (h0 : 0 ≤ i) (h1 : i < (l.length : Int)) : rd_T33 l i ∈ l := by
  have e : i = ((i.toNat : Nat) : Int) := by omega
  rw [e, rd33 l i.toNat (by omega)]
  exact List.getElem_mem _
theorem mem_rd33 {l : List S33} {x : S33} (h : x ∈ l) : ∃ i : Int, 0 ≤ i ∧ i < (l.length : Int) ∧ rd_T33 l i = x := by
  obtain ⟨i, hi, e⟩ := List.mem_iff_getElem.1 h
  exact ⟨(i : Int), by omega, by omega, by rw [rd33 l i hi, e]⟩
theorem rd33_get {l : List S33} {i : Int} (h0 : 0 ≤ i) (h1 : i < (l.length : Int)) : l[i.toNat]? = some (rd_T33 l i) := by
  have e : i = ((i.toNat : Nat) : Int) := by omega
  rw [e, rd33 l i.toNat (by omega), Int.toNat_natCast, List.getElem?_eq_getElem]
theorem take_next {l : List S33} {i : Int} (h0 : 0 ≤ i) (h1 : i < (l.length : Int)) : l.take (i + 1).toNat = l.take i.toNat ++ [rd_T33 l i] := by
  rw [show (i + 1).toNat = i.toNat + 1 from by omega, List.take_add_one, rd33_get h0 h1]
  rfl
theorem drop_next {l : List S33} {i : Int} (h0 : 0 ≤ i) (h1 : i < (l.length : Int)) : l.drop i.toNat = rd_T33 l i :: l.drop (i + 1).toNat := by
  have e : i = ((i.toNat : Nat) : Int) := by omega
  have g : rd_T33 l i = l[i.toNat]'(by omega) := by rw [← rd33 l i.toNat (by omega), ← e]
  rw [g, show (i + 1).toNat = i.toNat + 1 from by omega, ← List.drop_eq_getElem_cons]
def IdP (x : S33) : Prop := 1 ≤ x.f0 ∧ x.f0 ≤ 1073741824
instance (x : S33) : Decidable (IdP x) := by unfold IdP; infer_instance
def Fine (x : S33) : Prop := Ev (fun k => spileref22_One.f k x.f0 x.f1.f0 x.f1.f1 x.f2) 0
def Up (l : List S33) : Prop := l.Pairwise (fun a b => a.f0 < b.f0)
def RightL (l : List S33) : Prop := (l.length : Int) ≤ 32 ∧ Up l ∧ ∀ x, x ∈ l → IdP x ∧ Fine x
def At (l : List S33) (j : Int) : Prop := IdP (rd_T33 l j) ∧ (0 < j → (rd_T33 l (j - 1)).f0 < (rd_T33 l j).f0) ∧ Fine (rd_T33 l j)
theorem check_sem (l : List S33) (hl : (l.length : Int) ≤ 9223372036854775807) (hw : ∀ i, 0 ≤ i → i < (l.length : Int) → Wf33 (rd_T33 l i)) : ∀ i, 0 ≤ i → i ≤ (l.length : Int) →
    ∃ r, Ev (fun k => spileref22_Check.l0 k l i) r ∧ (r.2 = 0 ↔ ∀ j, i ≤ j → j < (l.length : Int) → At l j) := by
  refine count_up 0 (l.length : Int) _ ?_ ?_
  · exact ⟨(-1, 0), Ev.step (fun k => spileref22_Check.l0.eq_2 ..) (evn (by omega) (Ev.now _)), fun _ j h0 h1 => by omega, fun _ => rfl⟩
  · intro i h0 h1 ih
    obtain ⟨r, q1, q2⟩ := ih
    rw [← w64_succ h0 h1 hl] at q1
    have bad : ∀ e : Int, e ≠ 0 → ¬ At l i → (((i, e) : Int × Int).2 = 0 ↔ ∀ j, i ≤ j → j < (l.length : Int) → At l j) := fun e he hn => ⟨fun h => absurd h he, fun h => absurd (h i (by omega) h1) hn⟩
    have good : At l i → (r.2 = 0 ↔ ∀ j, i ≤ j → j < (l.length : Int) → At l j) := fun hi => ⟨fun h j g0 g1 => by
      by_cases e : j = i
      · rw [e]; exact hi
      · exact q2.1 h j (by omega) g1, fun h => q2.2 (fun j g0 g1 => h j (by omega) g1)⟩
    by_cases c : IdP (rd_T33 l i)
    · have hid : Ev (fun _ : Nat => spileref22_ID.f (rd_T33 l i).f0) true := evc (fun _ => rfl) (by rw [id_eq]; exact congrArg some (decide_eq_true c))
      obtain ⟨e, o1, _⟩ := one_both (rd_T33 l i) (hw i h0 h1)
      by_cases c3 : i > 0
      · have hp := w64_pred h0 (Int.le_of_lt h1) hl
        have p0 : 0 ≤ wrap64 (i - 1) := by rw [hp]; omega
        have p1 : wrap64 (i - 1) < (l.length : Int) := by rw [hp]; omega
        by_cases c4 : (rd_T33 l i).f0 ≤ (rd_T33 l (wrap64 (i - 1))).f0
        · refine ⟨(i, 5), Ev.step (fun k => spileref22_Check.l0.eq_2 ..) (evp h1 (evp h0 (evb hid (evp rfl ?_)))), bad 5 (by decide) (fun h => ?_)⟩
          · exact evp c3 (evp p0 (evp p1 (Ev.step (fun k => spileref22_Check.j1.eq_2 ..) (evp (decide_eq_true c4) (Ev.now _)))))
          · have := h.2.1 c3
            rw [hp] at c4
            omega
        · have hd2 : ¬ decide ((rd_T33 l i).f0 ≤ (rd_T33 l (wrap64 (i - 1))).f0) = true := by simpa using c4
          by_cases he : e = 0
          · refine ⟨r, Ev.step (fun k => spileref22_Check.l0.eq_2 ..) (evp h1 (evp h0 (evb hid (evp rfl ?_)))), good ⟨c, fun _ => ?_, ?_⟩⟩
            · exact evp c3 (evp p0 (evp p1 (Ev.step (fun k => spileref22_Check.j1.eq_2 ..) (evn hd2 (evp h0 (evp h1 (evb o1 (evp he q1))))))))
            · rw [hp] at c4
              omega
            · subst he; exact o1
          · refine ⟨(i, e), Ev.step (fun k => spileref22_Check.l0.eq_2 ..) (evp h1 (evp h0 (evb hid (evp rfl ?_)))), bad e he (fun h => he (ev_unique o1 h.2.2))⟩
            exact evp c3 (evp p0 (evp p1 (Ev.step (fun k => spileref22_Check.j1.eq_2 ..) (evn hd2 (evp h0 (evp h1 (evb o1 (evn he (Ev.now _)))))))))
      · by_cases he : e = 0
        · refine ⟨r, Ev.step (fun k => spileref22_Check.l0.eq_2 ..) (evp h1 (evp h0 (evb hid (evp rfl ?_)))), good ⟨c, fun h => absurd h c3, ?_⟩⟩
          · exact evn c3 (Ev.step (fun k => spileref22_Check.j1.eq_2 ..) (evn (by simp) (evp h0 (evp h1 (evb o1 (evp he q1))))))
          · subst he; exact o1
        · refine ⟨(i, e), Ev.step (fun k => spileref22_Check.l0.eq_2 ..) (evp h1 (evp h0 (evb hid (evp rfl ?_)))), bad e he (fun h => he (ev_unique o1 h.2.2))⟩
          exact evn c3 (Ev.step (fun k => spileref22_Check.j1.eq_2 ..) (evn (by simp) (evp h0 (evp h1 (evb o1 (evn he (Ev.now _)))))))
    · refine ⟨(i, 2), Ev.step (fun k => spileref22_Check.l0.eq_2 ..) (evp h1 (evp h0 (evb (a := false) (evc (fun _ => rfl) ?_) (evn (by simp) (Ev.now _))))), bad 2 (by decide) (fun h => c h.1)⟩
      rw [id_eq]; exact congrArg some (decide_eq_false c)
theorem up_of (l : List S33) (h : ∀ j, 0 ≤ j → j < (l.length : Int) → At l j) : Up l := by
  refine List.pairwise_iff_getElem.2 ?_
  have key : ∀ d i : Nat, (hi : i + d + 1 < l.length) → (l[i]'(by omega)).f0 < (l[i + d + 1]'hi).f0 := by
    intro d
    induction d with
    | zero =>
      intro i hi
      have := (h ((i + 1 : Nat) : Int) (by omega) (by omega)).2.1 (by omega)
      rw [rd33 l (i + 1) hi, show (((i + 1 : Nat) : Int) - 1) = (i : Int) from by omega, rd33 l i (by omega)] at this
      exact this
    | succ d ih =>
      intro i hi
      have a := ih i (by omega)
      have := (h ((i + d + 1 + 1 : Nat) : Int) (by omega) (by omega)).2.1 (by omega)
      rw [rd33 l (i + d + 1 + 1) (by omega), show (((i + d + 1 + 1 : Nat) : Int) - 1) = ((i + d + 1 : Nat) : Int) from by omega, rd33 l (i + d + 1) (by omega)] at this
      exact Int.lt_trans a this
  intro i j hi hj hij
  obtain ⟨d, rfl⟩ : ∃ d, j = i + d + 1 := ⟨j - i - 1, by omega⟩
  exact key d i hj
theorem up_lt {l : List S33} (h : Up l) {i j : Int} (h0 : 0 ≤ i) (h1 : i < j) (h2 : j < (l.length : Int)) : (rd_T33 l i).f0 < (rd_T33 l j).f0 := by
  have e : i = ((i.toNat : Nat) : Int) := by omega
  have e2 : j = ((j.toNat : Nat) : Int) := by omega
  rw [e, e2, rd33 l i.toNat (by omega), rd33 l j.toNat (by omega)]
  exact List.pairwise_iff_getElem.1 h i.toNat j.toNat (by omega) (by omega) (by omega)
theorem at_iff (l : List S33) : (∀ j, 0 ≤ j → j < (l.length : Int) → At l j) ↔ Up l ∧ ∀ x, x ∈ l → IdP x ∧ Fine x := by
  constructor
  · intro h
    refine ⟨up_of l h, fun x hx => ?_⟩
    obtain ⟨i, h0, h1, rfl⟩ := mem_rd33 hx
    exact ⟨(h i h0 h1).1, (h i h0 h1).2.2⟩
  · intro h j h0 h1
    have hm := h.2 _ (rd33_mem h0 h1)
    exact ⟨hm.1, fun hj => up_lt h.1 (by omega) (by omega) h1, hm.2⟩
theorem check_iff (l : List S33) (hl : (l.length : Int) ≤ 9223372036854775807) (hw : ∀ i, 0 ≤ i → i < (l.length : Int) → Wf33 (rd_T33 l i)) :
    ∃ r, Ev (fun k => lot_Check.f k l) r ∧ Ev (fun k => spileref22_Check.f k l) r ∧ (r.2 = 0 ↔ RightL l) := by
  obtain ⟨r, q1, q2⟩ := check_both l hl hw
  refine ⟨r, q1, q2, ?_⟩
  by_cases c : (l.length : Int) > 32
  · have : Ev (fun k => spileref22_Check.f k l) (-1, 8) := evp c (Ev.now _)
    rw [ev_unique q2 this]
    exact ⟨fun h => absurd h (by decide), fun h => absurd h.1 (by omega)⟩
  · obtain ⟨r2, p1, p2⟩ := check_sem l hl hw 0 (by omega) (by omega)
    have : Ev (fun k => spileref22_Check.f k l) r2 := evn c p1
    rw [ev_unique q2 this, p2, at_iff]
    exact ⟨fun h => ⟨by omega, h⟩, fun h => h.2⟩
theorem right_iff (l : List S33) (hl : (l.length : Int) ≤ 9223372036854775807) (hw : ∀ i, 0 ≤ i → i < (l.length : Int) → Wf33 (rd_T33 l i)) :
    ∃ b, Ev (fun k => lot_right.f k l) b ∧ Ev (fun k => spileref22_Right.f k l) b ∧ (b = true ↔ RightL l) := by
  obtain ⟨r, q1, q2, q3⟩ := check_iff l hl hw
  exact ⟨r.2 == 0, evb q1 (Ev.now _), evb q2 (Ev.now _), by rw [← q3]; simp⟩
theorem put1_eq (l : List S33) (x : S33) (a : Int) (h0 : 0 ≤ a) (h1 : a < (l.length : Int)) : lot_Put_1.f a l x.f0 x.f1.f0 x.f1.f1 x.f2 = some (decide ((rd_T33 l a).f0 ≥ x.f0)) := by
  unfold lot_Put_1.f
  rw [if_pos h0, if_pos h1]
theorem search_put (l : List S33) (hn : (l.length : Int) ≤ 37) (hu : Up l) (x : S33) : ∃ r, Ev (fun k => sort_Search_44_at_45.f k (l.length : Int) l x.f0 x.f1.f0 x.f1.f1 x.f2) r ∧ 0 ≤ r ∧ r ≤ (l.length : Int) ∧
    (∀ a, 0 ≤ a → a < r → ¬ (rd_T33 l a).f0 ≥ x.f0) ∧ (∀ a, r ≤ a → a < (l.length : Int) → (rd_T33 l a).f0 ≥ x.f0) := by
  refine search_ev (l.length : Int) (fun a => (rd_T33 l a).f0 ≥ x.f0) (fun i j k => sort_Search_44_at_45.l0 k i j l x.f0 x.f1.f0 x.f1.f1 x.f2) ?_ ?_ ?_ ?_ (by omega)
  · intro i h0 h1
    exact Ev.step (fun k => sort_Search_44_at_45.l0.eq_2 ..) (evn (by omega) (Ev.now _))
  · intro i j h0 h1 h2 q r hr
    have hm := half h0 h1 (by omega)
    refine Ev.step (fun k => sort_Search_44_at_45.l0.eq_2 ..) (evp h1 ?_)
    rw [hm]
    exact evb (a := true) (evc (fun _ => rfl) (by rw [put1_eq l x _ (by omega) (by omega), decide_eq_true q])) (evp rfl hr)
  · intro i j h0 h1 h2 q r hr
    have hm := half h0 h1 (by omega)
    refine Ev.step (fun k => sort_Search_44_at_45.l0.eq_2 ..) (evp h1 ?_)
    rw [hm, w64 (x := (i + j) / 2 + 1) (by omega) (by omega)]
    exact evb (a := false) (evc (fun _ => rfl) (by rw [put1_eq l x _ (by omega) (by omega), decide_eq_false q])) (evn (by simp) hr)
  · intro a b h0 h1 h2 q
    by_cases e : a = b
    · subst e; exact q
    · have := up_lt hu h0 (by omega : a < b) h2
      have q2 : (rd_T33 l a).f0 ≥ x.f0 := q
      show (rd_T33 l b).f0 ≥ x.f0
      omega
def putL (l : List S33) (x : S33) (e : Bool) : List S33 := l.filter (fun y => decide (y.f0 < x.f0)) ++ ((if e = true then [] else [x]) ++ l.filter (fun y => decide (x.f0 < y.f0)))
theorem take_filter (l : List S33) (x : S33) (n : Int) (h0 : 0 ≤ n) (h1 : n ≤ (l.length : Int)) (hlo : ∀ a, 0 ≤ a → a < n → ¬ (rd_T33 l a).f0 ≥ x.f0) (hhi : ∀ a, n ≤ a → a < (l.length : Int) → (rd_T33 l a).f0 ≥ x.f0) :
    l.filter (fun y => decide (y.f0 < x.f0)) = l.take n.toNat := by
  have a1 : (l.take n.toNat).filter (fun y => decide (y.f0 < x.f0)) = l.take n.toNat := by
    refine List.filter_eq_self.2 (fun y hy => ?_)
    obtain ⟨i, hi, e⟩ := List.mem_iff_getElem.1 hy
    have hi2 : i < l.length ∧ i < n.toNat := by rw [List.length_take] at hi; omega
    have := hlo (i : Int) (by omega) (by omega)
    rw [rd33 l i hi2.1] at this
    rw [List.getElem_take] at e
    rw [← e]
    exact decide_eq_true (by omega)
  have a2 : (l.drop n.toNat).filter (fun y => decide (y.f0 < x.f0)) = [] := by
    refine List.filter_eq_nil_iff.2 (fun y hy => ?_)
    obtain ⟨i, hi, e⟩ := List.mem_iff_getElem.1 hy
    have hi2 : n.toNat + i < l.length := by rw [List.length_drop] at hi; omega
    have := hhi ((n.toNat + i : Nat) : Int) (by omega) (by omega)
    rw [rd33 l _ hi2] at this
    rw [List.getElem_drop] at e
    rw [← e]
    simpa using this
  have a3 := congrArg (List.filter (fun y => decide (y.f0 < x.f0))) (List.take_append_drop n.toNat l)
  rw [List.filter_append, a1, a2, List.append_nil] at a3
  exact a3.symm
theorem drop_filter (l : List S33) (x : S33) (m : Int) (h0 : 0 ≤ m) (h1 : m ≤ (l.length : Int)) (hlo : ∀ a, 0 ≤ a → a < m → (rd_T33 l a).f0 ≤ x.f0) (hhi : ∀ a, m ≤ a → a < (l.length : Int) → x.f0 < (rd_T33 l a).f0) :
    l.filter (fun y => decide (x.f0 < y.f0)) = l.drop m.toNat := by
  have a1 : (l.take m.toNat).filter (fun y => decide (x.f0 < y.f0)) = [] := by
    refine List.filter_eq_nil_iff.2 (fun y hy => ?_)
    obtain ⟨i, hi, e⟩ := List.mem_iff_getElem.1 hy
    have hi2 : i < l.length ∧ i < m.toNat := by rw [List.length_take] at hi; omega
    have := hlo (i : Int) (by omega) (by omega)
    rw [rd33 l i hi2.1] at this
    rw [List.getElem_take] at e
    rw [← e]
    simpa using this
  have a2 : (l.drop m.toNat).filter (fun y => decide (x.f0 < y.f0)) = l.drop m.toNat := by
    refine List.filter_eq_self.2 (fun y hy => ?_)
    obtain ⟨i, hi, e⟩ := List.mem_iff_getElem.1 hy
    have hi2 : m.toNat + i < l.length := by rw [List.length_drop] at hi; omega
    have := hhi ((m.toNat + i : Nat) : Int) (by omega) (by omega)
    rw [rd33 l _ hi2] at this
    rw [List.getElem_drop] at e
    rw [← e]
    exact decide_eq_true this
  have a3 := congrArg (List.filter (fun y => decide (x.f0 < y.f0))) (List.take_append_drop m.toNat l)
  rw [List.filter_append, a1, a2, List.nil_append] at a3
  exact a3.symm
/-- The second copying loop: what stands behind the place. -/
theorem put_tail (m : List S33) (hm : (m.length : Int) ≤ 37) (hf : ∀ y, y ∈ m → (y.f2.length : Int) ≤ 37) (base : List S33) (hb : (base.length : Int) ≤ 50) : ∀ i, 0 ≤ i → i ≤ (m.length : Int) →
    Ev (fun k => lot_Put.l1 k (base ++ m.take i.toNat) m (m.length : Int) i) (if ((base ++ m).length : Int) > 32 then ([], 8) else (base ++ m, 0)) := by
  refine count_up 0 (m.length : Int) _ ?_ ?_
  · rw [show ((m.length : Int)).toNat = m.length from by omega, List.take_length]
    refine Ev.step (fun k => lot_Put.l1.eq_2 ..) (evn (by omega) ?_)
    by_cases c : ((base ++ m).length : Int) > 32
    · rw [show (if ((base ++ m).length : Int) > 32 then (([] : List S33), (8 : Int)) else (base ++ m, 0)) = ([], 8) from if_pos c]; exact evp c (Ev.now _)
    · rw [show (if ((base ++ m).length : Int) > 32 then (([] : List S33), (8 : Int)) else (base ++ m, 0)) = (base ++ m, 0) from if_neg c]; exact evn c (Ev.now _)
  · intro i h0 h1 ih
    rw [take_next h0 h1, ← List.append_assoc, ← w64_succ h0 h1 (by omega)] at ih
    have hl : (base ++ m.take i.toNat).length < 2932031007402 := by
      rw [List.length_append, List.length_take]; omega
    exact Ev.step (fun k => lot_Put.l1.eq_2 ..) (evp h1 (evp h0 (evp h1 (evb (evc (fun _ => rfl) (own_eq _ (hf _ (rd33_mem h0 h1)))) (evp hl ih)))))
theorem put_head (m : List S33) (hm : (m.length : Int) ≤ 37) (hf : ∀ y, y ∈ m → (y.f2.length : Int) ≤ 37) (x : S33) (hx : (x.f2.length : Int) ≤ 37) (e : Bool) (rest : List S33) (hr : (rest.length : Int) ≤ 37) (hfr : ∀ y, y ∈ rest → (y.f2.length : Int) ≤ 37) : ∀ i, 0 ≤ i → i ≤ (m.length : Int) →
    Ev (fun k => lot_Put.l0 k e rest (m.take i.toNat) m (m.length : Int) i x.f0 x.f1.f0 x.f1.f1 x.f2) (if ((m ++ ((if e = true then [] else [x]) ++ rest)).length : Int) > 32 then ([], 8) else (m ++ ((if e = true then [] else [x]) ++ rest), 0)) := by
  refine count_up 0 (m.length : Int) _ ?_ ?_
  · rw [show ((m.length : Int)).toNat = m.length from by omega, List.take_length]
    refine Ev.step (fun k => lot_Put.l0.eq_2 ..) (evn (by omega) ?_)
    cases e with
    | true =>
      refine evp rfl (Ev.step (fun k => lot_Put.j5.eq_2 ..) ?_)
      have := put_tail rest hr hfr m (by omega) 0 (by omega) (by omega)
      rw [show (0 : Int).toNat = 0 from rfl, List.take_zero, List.append_nil] at this
      exact this
    | false =>
      refine evn (by simp) (evb (evc (fun _ => rfl) (own_eq x hx)) (evp (by omega) (Ev.step (fun k => lot_Put.j5.eq_2 ..) ?_)))
      have := put_tail rest hr hfr (m ++ [x]) (by rw [List.length_append]; simp; omega) 0 (by omega) (by omega)
      rw [show (0 : Int).toNat = 0 from rfl, List.take_zero, List.append_nil, List.append_assoc] at this
      exact this
  · intro i h0 h1 ih
    rw [take_next h0 h1, ← w64_succ h0 h1 (by omega)] at ih
    have hl : (m.take i.toNat).length < 2932031007402 := by
      rw [List.length_take]; omega
    exact Ev.step (fun k => lot_Put.l0.eq_2 ..) (evp h1 (evp h0 (evp h1 (evb (evc (fun _ => rfl) (own_eq _ (hf _ (rd33_mem h0 h1)))) (evp hl ih)))))
theorem lot_placed (l : List S33) (hn : (l.length : Int) ≤ 37) (hu : Up l) (hf : ∀ y, y ∈ l → (y.f2.length : Int) ≤ 37) (x : S33) (hx : (x.f2.length : Int) ≤ 37) (e : Bool) :
    Ev (fun k => lot_Put.j1 k e l x.f0 x.f1.f0 x.f1.f1 x.f2) (if ((putL l x e).length : Int) > 32 then ([], 8) else (putL l x e, 0)) := by
  obtain ⟨n, s1, s2, s3, s4, s5⟩ := search_put l hn hu x
  have head : ∀ rest : List S33, l.filter (fun y => decide (x.f0 < y.f0)) = rest → (rest.length : Int) ≤ 37 → (∀ y, y ∈ rest → (y.f2.length : Int) ≤ 37) →
      Ev (fun k => lot_Put.j3 k e n rest l x.f0 x.f1.f0 x.f1.f1 x.f2) (if ((putL l x e).length : Int) > 32 then ([], 8) else (putL l x e, 0)) := by
    intro rest hr h1 h2
    unfold putL
    rw [hr, take_filter l x n s2 s3 s4 s5]
    have hlt : ((l.take n.toNat).length : Int) ≤ 37 := by rw [List.length_take]; omega
    have := put_head (l.take n.toNat) hlt (fun y hy => hf y (List.mem_of_mem_take hy)) x hx e rest h1 h2 0 (by omega) (by omega)
    rw [show (0 : Int).toNat = 0 from rfl, List.take_zero] at this
    exact Ev.step (fun k => lot_Put.j3.eq_2 ..) (evp s2 (evp s3 (evb (Ev.now _) this)))
  have dl : ∀ m : Nat, ((l.drop m).length : Int) ≤ 37 := fun m => by rw [List.length_drop]; omega
  have df : ∀ m : Nat, ∀ y, y ∈ l.drop m → (y.f2.length : Int) ≤ 37 := fun m y hy => hf y (List.mem_of_mem_drop hy)
  refine Ev.step (fun k => lot_Put.j1.eq_2 ..) (evb s1 (evp s2 (evp s3 (evb (Ev.now _) ?_))))
  by_cases c : n < (l.length : Int)
  · by_cases c2 : (rd_T33 l n).f0 = x.f0
    · refine evp c (Ev.step (fun k => lot_Put.j2.eq_2 ..) (evp (by simpa using c2) ?_))
      rw [w64_succ s2 c (by omega)]
      refine evp (by omega) (evp (by omega) (head _ (drop_filter l x (n + 1) (by omega) (by omega) (fun a h0 h1 => ?_) (fun a h0 h1 => ?_)) (dl _) (df _)))
      · by_cases ea : a = n
        · rw [ea]; omega
        · have := s4 a h0 (by omega); omega
      · have := up_lt hu s2 (by omega : n < a) h1; omega
    · refine evp c (Ev.step (fun k => lot_Put.j2.eq_2 ..) (evn (by simpa using c2) ?_))
      refine head _ (drop_filter l x n s2 s3 (fun a h0 h1 => ?_) (fun a h0 h1 => ?_)) (dl _) (df _)
      · have := s4 a h0 h1; omega
      · by_cases ea : a = n
        · have := s5 n (by omega) c; rw [ea]; omega
        · have := up_lt hu s2 (by omega : n < a) h1; have := s5 n (by omega) c; omega
  · refine evn c (Ev.step (fun k => lot_Put.j2.eq_2 ..) (evn (by simp) ?_))
    refine head _ (drop_filter l x n s2 s3 (fun a h0 h1 => ?_) (fun a h0 h1 => ?_)) (dl _) (df _)
    · have := s4 a h0 h1; omega
    · omega
theorem set_done (l : List S33) (hn : (l.length : Int) ≤ 37) (hf : ∀ y, y ∈ l → (y.f2.length : Int) ≤ 37) (x : S33) : ∀ i, 0 ≤ i → i ≤ (l.length : Int) → ∀ out : List S33, (out.length : Int) ≤ i + 1 →
    Ev (fun k => spileref22_Set.l0 k l out true i x.f0 x.f1.f0 x.f1.f1 x.f2) (out ++ (l.drop i.toNat).filter (fun y => decide (¬ y.f0 = x.f0))) := by
  refine count_up 0 (l.length : Int) _ ?_ ?_
  · intro out ho
    rw [show ((l.length : Int)).toNat = l.length from by omega, List.drop_length]
    exact Ev.step (fun k => spileref22_Set.l0.eq_2 ..) (evn (by omega) (evp rfl (evr (by simp))))
  · intro i h0 h1 ih out ho
    rw [drop_next h0 h1, List.filter_cons]
    refine Ev.step (fun k => spileref22_Set.l0.eq_2 ..) (evp h1 (evp rfl (Ev.step (fun k => spileref22_Set.j1.eq_2 ..) (evn (by simp) (evp h0 (evp h1 ?_))))))
    by_cases c : (rd_T33 l i).f0 = x.f0
    · have := ih out (by omega)
      rw [if_neg (by simpa using c), w64_succ h0 h1 (by omega)]
      exact evp c this
    · have := ih (out ++ [rd_T33 l i]) (by rw [List.length_append]; simp; omega)
      rw [List.append_assoc] at this
      rw [if_pos (by simpa using c), w64_succ h0 h1 (by omega)]
      exact evn c (evb (evc (fun _ => rfl) (copy_eq _ (hf _ (rd33_mem h0 h1)))) (evp (by omega) this))
def setS : List S33 → S33 → List S33
  | [], x => [x]
  | y :: s, x => if y.f0 ≥ x.f0 then x :: (y :: s).filter (fun y => decide (¬ y.f0 = x.f0)) else y :: setS s x
theorem set_open (l : List S33) (hn : (l.length : Int) ≤ 37) (hf : ∀ y, y ∈ l → (y.f2.length : Int) ≤ 37) (x : S33) (hx : (x.f2.length : Int) ≤ 37) : ∀ i, 0 ≤ i → i ≤ (l.length : Int) → ∀ out : List S33, (out.length : Int) ≤ i →
    Ev (fun k => spileref22_Set.l0 k l out false i x.f0 x.f1.f0 x.f1.f1 x.f2) (out ++ setS (l.drop i.toNat) x) := by
  refine count_up 0 (l.length : Int) _ ?_ ?_
  · intro out ho
    rw [show ((l.length : Int)).toNat = l.length from by omega, List.drop_length]
    exact Ev.step (fun k => spileref22_Set.l0.eq_2 ..) (evn (by omega) (evn (by simp) (evb (evc (fun _ => rfl) (copy_eq x hx)) (evp (by omega) (evr rfl)))))
  · intro i h0 h1 ih out ho
    rw [drop_next h0 h1]
    refine Ev.step (fun k => spileref22_Set.l0.eq_2 ..) (evp h1 (evn (by simp) (evp h0 (Ev.step (fun k => spileref22_Set.j1.eq_2 ..) ?_))))
    unfold setS
    by_cases c : (rd_T33 l i).f0 ≥ x.f0
    · rw [if_pos c, List.filter_cons]
      refine evp (decide_eq_true c) (evb (evc (fun _ => rfl) (copy_eq x hx)) (evp (by omega) (evb (Ev.now _) (evp h0 (evp h1 ?_)))))
      by_cases c2 : (rd_T33 l i).f0 = x.f0
      · have := set_done l hn hf x (i + 1) (by omega) (by omega) (out ++ [x]) (by rw [List.length_append]; simp; omega)
        rw [List.append_assoc] at this
        rw [if_neg (by simpa using c2), w64_succ h0 h1 (by omega)]
        exact evp c2 this
      · have := set_done l hn hf x (i + 1) (by omega) (by omega) (out ++ [x] ++ [rd_T33 l i]) (by rw [List.length_append, List.length_append]; simp; omega)
        rw [List.append_assoc, List.append_assoc] at this
        rw [if_pos (by simpa using c2), w64_succ h0 h1 (by omega)]
        refine evn c2 (evb (evc (fun _ => rfl) (copy_eq _ (hf _ (rd33_mem h0 h1)))) (evp (by rw [List.length_append]; simp; omega) ?_))
        rw [List.append_assoc]
        exact this
    · have := ih (out ++ [rd_T33 l i]) (by rw [List.length_append]; simp; omega)
      rw [List.append_assoc] at this
      rw [if_neg c, w64_succ h0 h1 (by omega)]
      refine evn (by simpa using c) (evp h0 (evp h1 (evn (fun h => c (by omega)) (evb (evc (fun _ => rfl) (copy_eq _ (hf _ (rd33_mem h0 h1)))) (evp (by omega) this)))))
theorem ne_split : ∀ (s : List S33) (x : S33), Up s → s.filter (fun y => decide (¬ y.f0 = x.f0)) = s.filter (fun y => decide (y.f0 < x.f0)) ++ s.filter (fun y => decide (x.f0 < y.f0))
  | [], _, _ => rfl
  | y :: s, x, h => by
    obtain ⟨h1, h2⟩ := List.pairwise_cons.1 h
    have ih := ne_split s x h2
    by_cases c : y.f0 < x.f0
    · rw [List.filter_cons_of_pos (by simp; omega), List.filter_cons_of_pos (by simpa using c), List.filter_cons_of_neg (by simp; omega), ih]; rfl
    · have e1 : (y :: s).filter (fun y => decide (y.f0 < x.f0)) = [] := by
        refine List.filter_eq_nil_iff.2 (fun z hz => ?_)
        rcases List.mem_cons.1 hz with rfl | hz
        · simpa using c
        · have := h1 z hz; simp; omega
      rw [e1, List.nil_append]
      refine List.filter_congr (fun z hz => ?_)
      have : y.f0 ≤ z.f0 := by
        rcases List.mem_cons.1 hz with rfl | hz
        · omega
        · exact Int.le_of_lt (h1 z hz)
      exact decide_eq_decide.2 (by omega)
theorem setS_eq : ∀ (s : List S33) (x : S33), Up s → setS s x = putL s x false
  | [], _, _ => rfl
  | y :: s, x, h => by
    obtain ⟨h1, h2⟩ := List.pairwise_cons.1 h
    have ih := setS_eq s x h2
    unfold setS
    by_cases c : y.f0 ≥ x.f0
    · rw [if_pos c, ne_split _ x h]
      have e1 : (y :: s).filter (fun y => decide (y.f0 < x.f0)) = [] := by
        refine List.filter_eq_nil_iff.2 (fun z hz => ?_)
        rcases List.mem_cons.1 hz with rfl | hz
        · simp; omega
        · have := h1 z hz; simp; omega
      unfold putL
      rw [e1]
      rfl
    · rw [if_neg c, ih]
      unfold putL
      rw [List.filter_cons_of_pos (by simp; omega), List.filter_cons_of_neg (a := y) (by simp; omega)]
      rfl
def emptyB (x : S33) : Bool := (x.f1.f0 == 0 && (x.f1.f1 == 0)) && ((x.f2.length : Int) == 0)
theorem empty_eq (x : S33) : spileref22_Empty.f x.f0 x.f1.f0 x.f1.f1 x.f2 = some (emptyB x) := by
  unfold spileref22_Empty.f emptyB
  by_cases c : (x.f1.f0 == 0 && (x.f1.f1 == 0)) = true
  · rw [if_pos c, c]; rfl
  · rw [if_neg c, Bool.eq_false_iff.2 c]; rfl
theorem ref_placed (l : List S33) (hn : (l.length : Int) ≤ 37) (hu : Up l) (hf : ∀ y, y ∈ l → (y.f2.length : Int) ≤ 37) (x : S33) (hx : (x.f2.length : Int) ≤ 37) :
    Ev (fun k => spileref22_Set.f k l x.f0 x.f1.f0 x.f1.f1 x.f2) (putL l x (emptyB x)) := by
  refine evb (evc (fun _ => rfl) (empty_eq x)) ?_
  cases emptyB x with
  | true =>
    have := set_done l hn hf x 0 (by omega) (by omega) [] (by simp)
    rw [show (0 : Int).toNat = 0 from rfl, List.drop_zero, List.nil_append, ne_split l x hu] at this
    exact this
  | false =>
    have := set_open l hn hf x hx 0 (by omega) (by omega) [] (by simp)
    rw [show (0 : Int).toNat = 0 from rfl, List.drop_zero, List.nil_append, setS_eq l x hu] at this
    exact this
theorem fault_one (x : S33) (h : Wf33 x) : ∃ e, Ev (fun k => spileref22_One.f k x.f0 x.f1.f0 x.f1.f1 x.f2) e ∧ (IdP x → Ev (fun k => lot_fault.f k [x] 0) e) ∧ (¬ IdP x → Ev (fun k => lot_fault.f k [x] 0) 2) := by
  obtain ⟨e, o1, o2⟩ := one_both x h
  have r0 : rd_T33 [x] 0 = x := rfl
  have h0 : (0 : Int) ≤ 0 := by omega
  have h1 : (0 : Int) < (([x] : List S33).length : Int) := by simp
  refine ⟨e, o1, fun hi => ?_, fun hi => ?_⟩
  · have c1 : ¬ (rd_T33 [x] 0).f0 < 1 := by rw [r0]; unfold IdP at hi; omega
    have c2 : ¬ decide ((rd_T33 [x] 0).f0 > 1073741824) = true := by rw [r0]; unfold IdP at hi; simp; omega
    exact evp h0 (evp h1 (evn c1 (Ev.step (fun k => lot_fault.j0.eq_2 ..) (evn c2 (evn (by omega) o2)))))
  · by_cases c1 : (rd_T33 [x] 0).f0 < 1
    · exact evp h0 (evp h1 (evp c1 (Ev.step (fun k => lot_fault.j0.eq_2 ..) (evp rfl (Ev.now _)))))
    · have c2 : decide ((rd_T33 [x] 0).f0 > 1073741824) = true := by rw [r0] at c1 ⊢; unfold IdP at hi; simp; omega
      exact evp h0 (evp h1 (evn c1 (Ev.step (fun k => lot_fault.j0.eq_2 ..) (evp c2 (Ev.now _)))))
theorem empty_one (x : S33) (h : emptyB x = true) {e : Int} (he : Ev (fun k => spileref22_One.f k x.f0 x.f1.f0 x.f1.f1 x.f2) e) : e = 1 := by
  unfold emptyB at h
  simp only [Bool.and_eq_true, beq_iff_eq] at h
  refine ev_unique he ?_
  refine evb (a := true) (evc (fun _ => rfl) ?_) (evp rfl (Ev.step (fun k => spileref22_One.j0.eq_2 ..) (evp (by simpa using h.1.2) (Ev.now _))))
  rw [h.1.1, h.1.2]
  rfl
def PutOK (l : List S33) (x : S33) : Prop := RightL l ∧ IdP x ∧ (emptyB x = true ∨ Fine x) ∧ ((putL l x (emptyB x)).length : Int) ≤ 32
/-- Both sides of Put. -/
theorem put_both (l : List S33) (hn : (l.length : Int) ≤ 37) (hw : ∀ i, 0 ≤ i → i < (l.length : Int) → Wf33 (rd_T33 l i)) (hf : ∀ y, y ∈ l → (y.f2.length : Int) ≤ 37) (x : S33) (hwx : Wf33 x) (hx : (x.f2.length : Int) ≤ 37) :
    ∃ r, Ev (fun k => lot_Put.f k l x.f0 x.f1.f0 x.f1.f1 x.f2) r ∧ Ev (fun k => spileref22_Put.f k l x.f0 x.f1.f0 x.f1.f1 x.f2) r ∧
      (PutOK l x → r = (putL l x (emptyB x), 0)) ∧ (¬ PutOK l x → r.1 = [] ∧ r.2 ≠ 0) := by
  obtain ⟨e, o1, o2, o3⟩ := fault_one x hwx
  obtain ⟨b, b1, b2, b3⟩ := right_iff l (by omega) hw
  have begin_ : ∀ r, Ev (fun k => lot_Put.j0 k (emptyB x) l x.f0 x.f1.f0 x.f1.f1 x.f2) r → Ev (fun k => lot_Put.f k l x.f0 x.f1.f0 x.f1.f1 x.f2) r := by
    intro r h
    unfold emptyB at h
    by_cases c : (x.f1.f0 == 0 && (x.f1.f1 == 0)) = true
    · rw [c] at h; exact evp c h
    · rw [Bool.eq_false_iff.2 c] at h; exact evn c h
  have fr : ∀ e' : Int, Ev (fun k => lot_fault.f k [x] 0) e' → ∀ r, Ev (fun k => (lot_right.f k l).bind fun t272 => (if t272 = true then (if e' = 2 then (some (([] : List (S33)), e')) else (if emptyB x = true then (lot_Put.j1 k (emptyB x) l x.f0 x.f1.f0 x.f1.f1 x.f2) else (if e' = 0 then (lot_Put.j1 k (emptyB x) l x.f0 x.f1.f0 x.f1.f1 x.f2) else (some (([] : List (S33)), e'))))) else (some (([] : List (S33)), 1)))) r → Ev (fun k => lot_Put.f k l x.f0 x.f1.f0 x.f1.f1 x.f2) r := by
    intro e' he r h
    exact begin_ r (Ev.step (fun k => lot_Put.j0.eq_2 ..) (evb he h))
  have fe : ∃ e', Ev (fun k => lot_fault.f k [x] 0) e' ∧ (IdP x → e' = e) ∧ (¬ IdP x → e' = 2) := by
    by_cases c : IdP x
    · exact ⟨e, o2 c, fun _ => rfl, fun h => absurd c h⟩
    · exact ⟨2, o3 c, fun h => absurd h c, fun _ => rfl⟩
  obtain ⟨e', g1, g2, g3⟩ := fe
  cases b with
  | false =>
    have hnr : ¬ RightL l := fun h => by have := b3.2 h; cases this
    exact ⟨([], 1), fr e' g1 _ (evb b1 (evn (by simp) (Ev.now _))), evb b2 (evn (by simp) (Ev.now _)), fun h => absurd h.1 hnr, fun _ => ⟨rfl, by decide⟩⟩
  | true =>
    have hr := b3.1 rfl
    have hp1 := lot_placed l hn hr.2.1 hf x hx (emptyB x)
    have hp2 := ref_placed l hn hr.2.1 hf x hx
    by_cases c : IdP x
    · have hid : Ev (fun _ : Nat => spileref22_ID.f x.f0) true := evc (fun _ => rfl) (by rw [id_eq]; exact congrArg some (decide_eq_true c))
      have hee := g2 c
      subst hee
      by_cases ok : emptyB x = true ∨ e' = 0
      · have ok2 : ¬ e' = 2 := by
          rcases ok with h | h
          · have := empty_one x h o1; omega
          · omega
        have lotside : ∀ r, Ev (fun k => lot_Put.j1 k (emptyB x) l x.f0 x.f1.f0 x.f1.f1 x.f2) r → Ev (fun k => lot_Put.f k l x.f0 x.f1.f0 x.f1.f1 x.f2) r := by
          intro r h
          refine fr e' g1 _ (evb b1 (evp rfl (evn ok2 ?_)))
          by_cases c2 : emptyB x = true
          · exact evp c2 h
          · exact evn c2 (evp (ok.resolve_left c2) h)
        have refside : ∀ r, Ev (fun k => spileref22_Put.j0 k l e' false x.f0 x.f1.f0 x.f1.f1 x.f2) r → Ev (fun k => spileref22_Put.f k l x.f0 x.f1.f0 x.f1.f1 x.f2) r := by
          intro r h
          refine evb b2 (evp rfl (evb hid (evp rfl (evb o1 ?_))))
          by_cases c2 : e' = 0
          · exact evp c2 h
          · refine evn c2 (evb (evc (fun _ => rfl) (empty_eq x)) ?_)
            rw [ok.resolve_right c2]
            exact h
        have okf : emptyB x = true ∨ Fine x := ok.imp id (fun h => by subst h; exact o1)
        by_cases c3 : ((putL l x (emptyB x)).length : Int) > 32
        · rw [if_pos c3] at hp1
          exact ⟨([], 8), lotside _ hp1, refside _ (Ev.step (fun k => spileref22_Put.j0.eq_2 ..) (evn (by simp) (evb hp2 (evp c3 (Ev.now _))))), fun h => absurd h.2.2.2 (by omega), fun _ => ⟨rfl, by decide⟩⟩
        · rw [if_neg c3] at hp1
          exact ⟨(putL l x (emptyB x), 0), lotside _ hp1, refside _ (Ev.step (fun k => spileref22_Put.j0.eq_2 ..) (evn (by simp) (evb hp2 (evn c3 (Ev.now _))))), fun _ => rfl, fun h => absurd ⟨hr, c, okf, by omega⟩ h⟩
      · have c2 : ¬ emptyB x = true := fun h => ok (.inl h)
        have c3 : ¬ e' = 0 := fun h => ok (.inr h)
        refine ⟨([], e'), fr e' g1 _ (evb b1 (evp rfl ?_)), evb b2 (evp rfl (evb hid (evp rfl (evb o1 (evn c3 (evb (evc (fun _ => rfl) (empty_eq x)) ?_)))))), fun h => ?_, fun _ => ⟨rfl, c3⟩⟩
        · by_cases c4 : e' = 2
          · exact evp c4 (Ev.now _)
          · exact evn c4 (evn c2 (evn c3 (Ev.now _)))
        · rw [Bool.eq_false_iff.2 c2]
          exact Ev.step (fun k => spileref22_Put.j0.eq_2 ..) (evp rfl (Ev.now _))
        · rcases h.2.2.1 with h | h
          · exact absurd h c2
          · exact absurd (ev_unique o1 h) c3
    · have hid : Ev (fun _ : Nat => spileref22_ID.f x.f0) false := evc (fun _ => rfl) (by rw [id_eq]; exact congrArg some (decide_eq_false c))
      have hee := g3 c
      subst hee
      exact ⟨([], 2), fr 2 g1 _ (evb b1 (evp rfl (evp rfl (Ev.now _)))), evb b2 (evp rfl (evb hid (evn (by simp) (Ev.now _)))), fun h => absurd h.2.1 c, fun _ => ⟨rfl, by decide⟩⟩
/-- Lists that are alike are the same. -/
theorem same_ev (l : List S33) (hn : (l.length : Int) ≤ 9223372036854775807) (hf : ∀ y, y ∈ l → (y.f2.length : Int) ≤ 37) : Ev (fun k => spileref22_Same.f k l l) true := by
  refine evp rfl (count_up 0 (l.length : Int) (fun i => Ev (fun k => spileref22_Same.l0 k l l i) true) ?_ ?_ 0 (by omega) (by omega))
  · exact Ev.step (fun k => spileref22_Same.l0.eq_2 ..) (evn (by omega) (Ev.now _))
  · intro i h0 h1 ih
    rw [← w64_succ h0 h1 hn] at ih
    have := hf _ (rd33_mem h0 h1)
    exact Ev.step (fun k => spileref22_Same.l0.eq_2 ..) (evp h1 (evp h0 (evp h1 (evb (sameLot_ev _ _ _ _ (by omega)) (evp rfl ih)))))
theorem putL_mem {l : List S33} {x : S33} {e : Bool} {y : S33} (h : y ∈ putL l x e) : y = x ∨ y ∈ l := by
  unfold putL at h
  rcases List.mem_append.1 h with h | h
  · exact .inr (List.mem_filter.1 h).1
  · rcases List.mem_append.1 h with h | h
    · cases e with
      | true => simp at h
      | false => simp at h; exact .inl h
    · exact .inr (List.mem_filter.1 h).1
theorem wf_all (l : List S33) (h : l.length ≤ maxLen ∧ ∀ x, x ∈ l → ok33 x) : ∀ i, 0 ≤ i → i < (l.length : Int) → Wf33 (rd_T33 l i) := by
  intro i h0 h1
  obtain ⟨_, ⟨a, b⟩, c, _⟩ := h.2 _ (rd33_mem h0 h1)
  exact ⟨wf64 a, wf64 b, len_le c⟩
theorem few_all (l : List S33) (h : ∀ i, 0 ≤ i → i < (l.length : Int) → Few12 (rd_T33 l i).f2) : ∀ y, y ∈ l → (y.f2.length : Int) ≤ 37 := by
  intro y hy
  obtain ⟨i, h0, h1, rfl⟩ := mem_rd33 hy
  have := h i h0 h1
  unfold Few12 at this
  omega
end Go.Proofs.YtgjoenoknknoiaaDoor.PL
namespace Go.Proofs.YtgjoenoknknoiaaDoor.PL
open Go Go.RowKit Go.Proofs.YtgjoenoknknoiaaDoorW.PrintWords Go.Proofs.YtgjoenoknknoiaaDoorW.PrintLast Go.Proofs.YtgjoenoknknoiaaDoorW.PrintMore Go.Proofs.YtgjoenoknknoiaaDoor.Pr Go.Proofs.YtgjoenoknknoiaaDoor.Opn
theorem mem_putL (l : List S33) (x : S33) (e : Bool) (y : S33) : y ∈ putL l x e ↔ (y ∈ l ∧ y.f0 < x.f0) ∨ (e = false ∧ y = x) ∨ (y ∈ l ∧ x.f0 < y.f0) := by
  unfold putL
  rw [List.mem_append, List.mem_append, List.mem_filter, List.mem_filter]
  cases e <;> simp
theorem up_putL {l : List S33} (h : Up l) (x : S33) (e : Bool) : Up (putL l x e) := by
  unfold putL
  refine List.pairwise_append.2 ⟨h.filter _, List.pairwise_append.2 ⟨?_, h.filter _, ?_⟩, ?_⟩
  · cases e <;> simp
  · intro a ha b hb
    have := (List.mem_filter.1 hb).2
    cases e with
    | true => simp at ha
    | false => simp at ha this; rw [ha]; exact this
  · intro a ha b hb
    have h1 := (List.mem_filter.1 ha).2
    simp at h1
    rcases List.mem_append.1 hb with hb | hb
    · cases e with
      | true => simp at hb
      | false => simp at hb; rw [hb]; exact h1
    · have h2 := (List.mem_filter.1 hb).2
      simp at h2
      exact Int.lt_trans h1 h2
theorem putL_twice (l : List S33) (x : S33) (e : Bool) : putL (putL l x e) x e = putL l x e := by
  have a : (putL l x e).filter (fun y => decide (y.f0 < x.f0)) = l.filter (fun y => decide (y.f0 < x.f0)) := by
    unfold putL
    rw [List.filter_append, List.filter_append, List.filter_filter, List.filter_filter]
    rw [show l.filter (fun a => decide (a.f0 < x.f0) && decide (x.f0 < a.f0)) = [] from List.filter_eq_nil_iff.2 (fun z hz => by simp; omega)]
    rw [show (if e = true then ([] : List S33) else [x]).filter (fun y => decide (y.f0 < x.f0)) = [] from by cases e <;> simp]
    simp
  have b : (putL l x e).filter (fun y => decide (x.f0 < y.f0)) = l.filter (fun y => decide (x.f0 < y.f0)) := by
    unfold putL
    rw [List.filter_append, List.filter_append, List.filter_filter, List.filter_filter]
    rw [show l.filter (fun a => decide (x.f0 < a.f0) && decide (a.f0 < x.f0)) = [] from List.filter_eq_nil_iff.2 (fun z hz => by simp; omega)]
    rw [show (if e = true then ([] : List S33) else [x]).filter (fun y => decide (x.f0 < y.f0)) = [] from by cases e <;> simp]
    simp
  rw [show putL (putL l x e) x e = (putL l x e).filter (fun y => decide (y.f0 < x.f0)) ++ ((if e = true then [] else [x]) ++ (putL l x e).filter (fun y => decide (x.f0 < y.f0))) from rfl, a, b]
  rfl
theorem right_putL {l : List S33} {x : S33} (h : PutOK l x) : RightL (putL l x (emptyB x)) := by
  refine ⟨h.2.2.2, up_putL h.1.2.1 x _, fun y hy => ?_⟩
  rcases (mem_putL l x _ y).1 hy with a | a | a
  · exact h.1.2.2 y a.1
  · rw [a.2]
    refine ⟨h.2.1, h.2.2.1.resolve_left ?_⟩
    rw [a.1]; simp
  · exact h.1.2.2 y a.1
theorem find_none (l : List S33) (hn : (l.length : Int) ≤ 9223372036854775807) (id : Int) (h : ∀ y, y ∈ l → y.f0 ≠ id) : Ev (fun k => lot_Find.f k l id) (0, 0, 0, [], false) := by
  refine count_up 0 (l.length : Int) (fun i => Ev (fun k => lot_Find.l0 k id l (l.length : Int) i) (0, 0, 0, [], false)) ?_ ?_ 0 (by omega) (by omega)
  · exact Ev.step (fun k => lot_Find.l0.eq_2 ..) (evn (by omega) (Ev.now _))
  · intro i h0 h1 ih
    rw [← w64_succ h0 h1 hn] at ih
    exact Ev.step (fun k => lot_Find.l0.eq_2 ..) (evp h1 (evp h0 (evp h1 (evn (h _ (rd33_mem h0 h1)) ih))))
theorem find_one (l : List S33) (hn : (l.length : Int) ≤ 9223372036854775807) (hu : Up l) (x : S33) (hx : x ∈ l) (hs : (x.f2.length : Int) ≤ 37) : Ev (fun k => lot_Find.f k l x.f0) (x.f0, x.f1.f0, x.f1.f1, x.f2, true) := by
  obtain ⟨n, n0, n1, n2⟩ := mem_rd33 hx
  have : ∀ i, 0 ≤ i → i ≤ (l.length : Int) → i ≤ n → Ev (fun k => lot_Find.l0 k x.f0 l (l.length : Int) i) (x.f0, x.f1.f0, x.f1.f1, x.f2, true) := by
    refine count_up 0 (l.length : Int) _ (fun h => absurd h (by omega)) ?_
    intro i h0 h1 ih hi
    by_cases e : i = n
    · have ex : rd_T33 l i = x := by rw [e, n2]
      refine Ev.step (fun k => lot_Find.l0.eq_2 ..) (evp h1 (evp h0 (evp h1 (evp (by rw [ex]) ?_))))
      rw [ex]
      exact evb (evc (fun _ => rfl) (own_eq x hs)) (Ev.now _)
    · have ih := ih (by omega)
      rw [← w64_succ h0 h1 hn] at ih
      have := up_lt hu h0 (by omega : i < n) n1
      rw [n2] at this
      exact Ev.step (fun k => lot_Find.l0.eq_2 ..) (evp h1 (evp h0 (evp h1 (evn (by omega) ih))))
  exact this 0 (by omega) (by omega) n0
theorem among (l : List S33) (hn : (l.length : Int) ≤ 9223372036854775807) (z : S33) (hz : z ∈ l) : Ev (fun k => api_Lot_25_at_27.f k l z.f0 z.f1.f0 z.f1.f1 z.f2) true := by
  have inner : ∀ w : S33, spilelaw22_LotPlaces_1_1.f w.f0 w.f1.f0 w.f1.f1 w.f2 z.f0 z.f1.f0 z.f1.f1 z.f2 = some (w.f0 == z.f0) := fun w => rfl
  obtain ⟨r, q1, q2⟩ := index_ev (l.length : Int) (fun i => (rd_T33 l i).f0 = z.f0) (fun i k => api_Lot_48_at_27.l0 k l (l.length : Int) i z.f0 z.f1.f0 z.f1.f1 z.f2)
    (Ev.step (fun k => api_Lot_48_at_27.l0.eq_2 ..) (evn (by omega) (Ev.now _)))
    (fun i h0 h1 h => Ev.step (fun k => api_Lot_48_at_27.l0.eq_2 ..) (evp h1 (evp h0 (evp h1 (evb (evc (fun _ => rfl) (inner _)) (evp (by simpa using h) (Ev.now _)))))))
    (fun i h0 h1 h r hr => by
      rw [← w64_succ h0 h1 hn] at hr
      exact Ev.step (fun k => api_Lot_48_at_27.l0.eq_2 ..) (evp h1 (evp h0 (evp h1 (evb (evc (fun _ => rfl) (inner _)) (evn (by simpa using h) hr))))))
    0 (by omega) (by omega)
  rcases q2 with a | a
  · exact evb q1 (evr (decide_eq_true a.1))
  · obtain ⟨n, n0, n1, n2⟩ := mem_rd33 hz
    exact absurd (by rw [n2]) (a.2 n n0 n1)
theorem no_other (l : List S33) (hn : (l.length : Int) ≤ 9223372036854775807) (x : S33) (a : List S33) (ha : (a.length : Int) ≤ 9223372036854775807) (h : ∀ y, y ∈ a → y.f0 = x.f0 ∨ y ∈ l) : Ev (fun k => api_Lot_25_at_26.f k a x.f0 x.f1.f0 x.f1.f1 x.f2 l) false := by
  have : Ev (fun k => api_Lot_48_at_26.f k a x.f0 x.f1.f0 x.f1.f1 x.f2 l) (-1) := by
    refine count_up 0 (a.length : Int) (fun i => Ev (fun k => api_Lot_48_at_26.l0 k a (a.length : Int) i x.f0 x.f1.f0 x.f1.f1 x.f2 l) (-1)) ?_ ?_ 0 (by omega) (by omega)
    · exact Ev.step (fun k => api_Lot_48_at_26.l0.eq_2 ..) (evn (by omega) (Ev.now _))
    · intro i h0 h1 ih
      rw [← w64_succ h0 h1 ha] at ih
      refine Ev.step (fun k => api_Lot_48_at_26.l0.eq_2 ..) (evp h1 (evp h0 (evp h1 (evb (a := false) ?_ (evn (by simp) ih)))))
      by_cases c : (rd_T33 a i).f0 = x.f0
      · exact evp c (Ev.now _)
      · exact evn c (evb (among l hn _ ((h _ (rd33_mem h0 h1)).resolve_left c)) (Ev.now _))
  exact evb this (evr (by decide))
end Go.Proofs.YtgjoenoknknoiaaDoor.PL
namespace Go.Proofs.YtgjoenoknknoiaaDoor.Pure
open Go.RowKit Go.Proofs.YtgjoenoknknoiaaDoorW.PrintWords Go.Proofs.YtgjoenoknknoiaaDoorW.PrintLast Go.Proofs.YtgjoenoknknoiaaDoorW.PrintMore Go.Proofs.YtgjoenoknknoiaaDoor.Pr Go.Proofs.YtgjoenoknknoiaaDoor.Opn Go.Proofs.YtgjoenoknknoiaaDoor.X Go.Proofs.YtgjoenoknknoiaaDoor.PL
theorem placed (l : List S33) (hn : (l.length : Int) ≤ 37) (hw : ∀ i, 0 ≤ i → i < (l.length : Int) → Wf33 (rd_T33 l i)) (hf : ∀ y, y ∈ l → (y.f2.length : Int) ≤ 37) (x : S33) (hwx : Wf33 x) (hx : (x.f2.length : Int) ≤ 37) :
    Ev (fun k => spilelaw22_LotPlaces.j0 k false l x.f0 x.f1.f0 x.f1.f1 x.f2) true := by
  obtain ⟨r, r1, _, r3, r4⟩ := put_both l hn hw hf x hwx hx
  refine Ev.step (fun k => spilelaw22_LotPlaces.j0.eq_2 ..) (evn (by simp) (evb r1 ?_))
  by_cases ok : PutOK l x
  · rw [r3 ok]
    have hwa0 : ∀ y, y ∈ putL l x (emptyB x) → Wf33 y := by
      intro y hy
      rcases putL_mem hy with e | e
      · rw [e]; exact hwx
      · obtain ⟨i, h0, h1, e2⟩ := mem_rd33 e
        rw [← e2]; exact hw i h0 h1
    have hfa : ∀ y, y ∈ putL l x (emptyB x) → (y.f2.length : Int) ≤ 37 := by
      intro y hy
      rcases putL_mem hy with e | e
      · rw [e]; exact hx
      · exact hf y e
    have hra := right_putL ok
    have htw := putL_twice l x (emptyB x)
    have hxa : emptyB x = false → x ∈ putL l x (emptyB x) := fun h => (mem_putL l x _ x).2 (.inr (.inl ⟨h, rfl⟩))
    have hno : emptyB x = true → ∀ y, y ∈ putL l x (emptyB x) → y.f0 ≠ x.f0 := by
      intro h y hy
      rcases (mem_putL l x _ y).1 hy with a | a | a
      · omega
      · rw [h] at a; cases a.1
      · omega
    have hin : ∀ z, z ∈ l → z.f0 ≠ x.f0 → z ∈ putL l x (emptyB x) := by
      intro z hz h
      by_cases c : z.f0 < x.f0
      · exact (mem_putL l x _ z).2 (.inl ⟨hz, c⟩)
      · exact (mem_putL l x _ z).2 (.inr (.inr ⟨hz, by omega⟩))
    have hout : ∀ y, y ∈ putL l x (emptyB x) → y.f0 = x.f0 ∨ y ∈ l := by
      intro y hy
      rcases putL_mem hy with e | e
      · exact .inl (by rw [e])
      · exact .inr e
    have hpa : PutOK (putL l x (emptyB x)) x := ⟨hra, ok.2.1, ok.2.2.1, by rw [htw]; exact ok.2.2.2⟩
    generalize ha : putL l x (emptyB x) = a at *
    have hna : (a.length : Int) ≤ 37 := by have := hra.1; omega
    have hwa : ∀ i, 0 ≤ i → i < (a.length : Int) → Wf33 (rd_T33 a i) := fun i h0 h1 => hwa0 _ (rd33_mem h0 h1)
    obtain ⟨c, c1, _, c3⟩ := check_iff a (by omega) hwa
    refine evp rfl (evb c1 (evp (c3.2 hra) ?_))
    obtain ⟨q, q1, _, q3, _⟩ := put_both a hna hwa hfa x hwx hx
    rw [q3 hpa, htw] at q1
    have loop : Ev (fun k => spilelaw22_LotPlaces.l0 k a l (l.length : Int) 0 l x.f0 x.f1.f0 x.f1.f1 x.f2) true := by
      refine count_up 0 (l.length : Int) (fun i => Ev (fun k => spilelaw22_LotPlaces.l0 k a l (l.length : Int) i l x.f0 x.f1.f0 x.f1.f1 x.f2) true) ?_ ?_ 0 (by omega) (by omega)
      · exact Ev.step (fun k => spilelaw22_LotPlaces.l0.eq_2 ..) (evn (by omega) (evb (no_other l (by omega) x a (by omega) hout) (Ev.now _)))
      · intro i h0 h1 ih
        rw [← w64_succ h0 h1 (by omega)] at ih
        refine Ev.step (fun k => spilelaw22_LotPlaces.l0.eq_2 ..) (evp h1 (evp h0 (evp h1 ?_)))
        have hm := rd33_mem h0 h1
        have hs := hf _ hm
        by_cases c : (rd_T33 l i).f0 = x.f0
        · by_cases ce : emptyB x = true
          · refine evb (find_none a (by omega) _ (by rw [c]; exact hno ce)) (evp c ih)
          · have := find_one a (by omega) hra.2.1 x (hxa (Bool.eq_false_iff.2 ce)) hx
            rw [← c] at this
            exact evb this (evp c ih)
        · exact evb (find_one a (by omega) hra.2.1 _ (hin _ hm c) hs) (evn c (evp rfl (evb (sameLot_ev _ _ _ _ (by omega)) (evp rfl ih))))
    have j2 : Ev (fun k => spilelaw22_LotPlaces.j2 k a false l x.f0 x.f1.f0 x.f1.f1 x.f2) true := by
      refine Ev.step (fun k => spilelaw22_LotPlaces.j2.eq_2 ..) (evn (by simp) (evb q1 (evp rfl (evb (same_ev a (by omega) hfa) ?_))))
      exact Ev.step (fun k => spilelaw22_LotPlaces.j3.eq_2 ..) (evn (by simp) loop)
    have j1 : ∀ (found e : Bool) (f0 f1 f2 : Int) (fs : List S35), found = !e → (found = true → f0 = x.f0 ∧ f1 = x.f1.f0 ∧ f2 = x.f1.f1 ∧ fs = x.f2) → Ev (fun k => spilelaw22_LotPlaces.j1 k a found e l x.f0 x.f1.f0 x.f1.f1 x.f2 f0 f1 f2 fs) true := by
      intro found e f0 f1 f2 fs hfe hfx
      refine Ev.step (fun k => spilelaw22_LotPlaces.j1.eq_2 ..) (evn (by rw [hfe]; cases e <;> simp) ?_)
      cases found with
      | true =>
        obtain ⟨rfl, rfl, rfl, rfl⟩ := hfx rfl
        exact evp rfl (evb (sameLot_ev _ _ _ _ (by omega)) j2)
      | false => exact evn (by simp) j2
    have tail : ∀ (found : Bool) (f0 f1 f2 : Int) (fs : List S35), found = !(emptyB x) → (found = true → f0 = x.f0 ∧ f1 = x.f1.f0 ∧ f2 = x.f1.f1 ∧ fs = x.f2) →
        Ev (fun k => if (x.f1.f0 == 0 && (x.f1.f1 == 0)) = true then (spilelaw22_LotPlaces.j1 k a found ((x.f2.length : Int) == 0) l x.f0 x.f1.f0 x.f1.f1 x.f2 f0 f1 f2 fs) else (spilelaw22_LotPlaces.j1 k a found false l x.f0 x.f1.f0 x.f1.f1 x.f2 f0 f1 f2 fs)) true := by
      intro found f0 f1 f2 fs h1 h2
      unfold emptyB at h1
      by_cases c : (x.f1.f0 == 0 && (x.f1.f1 == 0)) = true
      · rw [c, Bool.true_and] at h1
        exact evp c (j1 _ _ _ _ _ _ h1 h2)
      · rw [Bool.eq_false_iff.2 c, Bool.false_and] at h1
        exact evn c (j1 _ _ _ _ _ _ h1 h2)
    by_cases ce : emptyB x = true
    · exact evb (find_none a (by omega) _ (hno ce)) (tail _ _ _ _ _ (by rw [ce]; rfl) (fun h => by cases h))
    · have ce := Bool.eq_false_iff.2 ce
      exact evb (find_one a (by omega) hra.2.1 x (hxa ce) hx) (tail _ _ _ _ _ (by rw [ce]; rfl) (fun _ => ⟨rfl, rfl, rfl, rfl⟩))
  · obtain ⟨e1, e2⟩ := r4 ok
    exact evn e2 (evr (by rw [e1]; rfl))
theorem LotPlaces : lotPlacesPure := by
  intro l a b c s hl ha hb hc hs
  refine Ev.rounds ?_
  have hn := len_le hl.1
  obtain ⟨t, f1, f2⟩ := few_ev l hn
  have haw : Ev (fun _ : Nat => spilelaw22_awake.f) true := Ev.now _
  have hwx : Wf33 (⟨a, ⟨b, c⟩, s⟩ : S33) := ⟨wf64 hb, wf64 hc, len_le hs.1⟩
  cases t with
  | false => exact evb haw (evp rfl (evb f1 (evn (by simp) (Ev.step (fun k => spilelaw22_LotPlaces.j0.eq_2 ..) (evp rfl (Ev.now _))))))
  | true =>
    obtain ⟨g1, g2⟩ := f2 rfl
    by_cases c1 : Few12 s
    · have hx : (s.length : Int) ≤ 37 := by unfold Few12 at c1; omega
      exact evb haw (evp rfl (evb f1 (evp rfl (evb (a := true) (evc (fun _ => rfl) (by rw [fewShares_eq, decide_eq_true c1])) (placed l g1 (wf_all l hl) (few_all l g2) (⟨a, ⟨b, c⟩, s⟩ : S33) hwx hx)))))
    · exact evb haw (evp rfl (evb f1 (evp rfl (evb (a := false) (evc (fun _ => rfl) (by rw [fewShares_eq, decide_eq_false c1])) (Ev.step (fun k => spilelaw22_LotPlaces.j0.eq_2 ..) (evp rfl (Ev.now _)))))))
end Go.Proofs.YtgjoenoknknoiaaDoor.Pure
namespace Go.Proofs.YtgjoenoknknoiaaDoor.lotPlaces
open Go Go.ChangeShapes Go.WideShapes Go.ChangeAt Go.RowKit
open Go.ChangeMaps (open_string shut_string)
open Go.Proofs.YtgjoenoknknoiaaDoorW.PrintWords Go.Proofs.YtgjoenoknknoiaaDoor.O Go.Proofs.YtgjoenoknknoiaaDoor.Opn Go.Proofs.YtgjoenoknknoiaaDoor.Pr Go.Proofs.YtgjoenoknknoiaaDoor.X
theorem own : ownKnob Tryd.prog.godebug = none := by kernel_rfl
theorem laidOut : laidOutB Tryd.prog = true := by kernel_rfl
abbrev laidL : List (String × DataW Unit) := [("math/bits.deBruijn32tab", Rows.laid_math_bits_deBruijn32tab), ("math/bits.deBruijn64tab", Rows.laid_math_bits_deBruijn64tab), ("internal/strconv.uint64pow10", Rows.laid_internal_strconv_uint64pow10)]
set_option maxRecDepth 100000 in
theorem lifted (os : Os) (started : os.Started) (H : Type) (enc : TypeId × Value → H)
    (hwit : ∀ args : Array Value, laidMetH Tryd.prog laidL ((World.doorLaid Tryd.prog 400 os).forCall (fun _ _ => 0) ⟨#[], args, []⟩).memory) :
    ReturnsInHanded {} Tryd.checked os 6 .any (fun w args => (Rows.lotPlacesSpec.pre enc Tryd.prog Tryd.f6 [] false w args ∧ laidMetH Tryd.prog laidL w) ∧ sizedMet enc Tryd.prog Tryd.f6 (OpenSpec.ofChange Rows.lotPlacesSpec) false w args)
      (Rows.lotPlacesSpec.post enc Tryd.prog Tryd.f6 false true false false) := by
  refine returnsInHanded_of_change_and (C := Tryd.checked) (X := (fun w _ => laidMetH Tryd.prog laidL w)) (fun _ _ _ hh h => h.of_heap hh) own started (by kernel_rfl) Tryd.func6
    (ChangeSpec.witness_shaped (enc := enc) (C := Tryd.checked) (os := os) (X := (fun w _ => laidMetH Tryd.prog laidL w)) false (World.doorLaid Tryd.prog 400 os) #[.slice none 0 0, .agg #[.int .i64 0, .int .i64 0, .int .i64 0, .slice none 0 0]] 8 rfl (World.shaped_of_RefB (by kernel_rfl) (by kernel_rfl)) (by kernel_rfl) (by kernel_rfl) (by kernel_rfl) (hwit _)) ?_
  intro W base args ds gs before hval0 hW _ _ hL _
  have hval : ∀ (j : Nat) t v, Tryd.f6.params[j]? = some t → args[j]? = some v → Value.okWide Tryd.prog W .any base t v := hval0
  have hW' := hW
  obtain ⟨p, q, hA0, hV, rfl, hfz, hnd⟩ := hW
  have hA : DataW.TrodAll enc Tryd.prog W 0 (fun _ => true) true Tryd.f6.params.toList args.toList ds p := hA0
  rw [Tryd.params6] at hA hval
  obtain ⟨v0, vs0, d0, ds0, p0, q0, hargs, rfl, rfl, h0, r0⟩ := trodAll_cons hA
  obtain ⟨v1, vs1, d1, ds1, p1, q1, rfl, rfl, rfl, h1, r1⟩ := trodAll_cons r0
  obtain ⟨rfl, rfl, rfl⟩ := trodAll_nil r1
  obtain rfl : args = #[v0, v1] := by cases args; simp_all
  obtain ⟨rfl, rfl⟩ := trodVars_none hV
  obtain ⟨a0_, len0_, cap0_, rfl⟩ := okWide_slice Tryd.underlying22 (hval 0 22 v0 rfl rfl)
  have k0 := h0
  have lt0 : ∀ x ∈ p0, x.block < W.heap.size := by obtain ⟨m, hm⟩ := k0; exact DataW.trod_lt m _ _ _ hm
  obtain ⟨l0, K0, ok0⟩ : ∃ x, (Kd.slice 33 k33).K W x [.slice a0_ len0_ cap0_] ∧ (x.length ≤ maxLen ∧ ∀ x0_, x0_ ∈ x → ok33 x0_) := by
    obtain ⟨fuel, hf⟩ := h0
    exact opens22.2 _ _ _ _ _ _ _ _ _ hf
  obtain ⟨A0, c0, e0, g0, hr0⟩ := K0
  simp only [List.cons.injEq, Value.slice.injEq, and_true] at e0
  obtain ⟨rfl, rfl, rfl⟩ := e0
  obtain ⟨cs1, rfl, _⟩ := okWide_struct Tryd.underlying33 (hval 1 33 v1 rfl rfl)
  have k1 := h1
  have lt1 : ∀ x ∈ p1, x.block < W.heap.size := by obtain ⟨m, hm⟩ := k1; exact DataW.trod_lt m _ _ _ hm
  obtain ⟨x1, K1, ok1⟩ : ∃ x, k33.K W x cs1.toList ∧ ok33 x := by
    obtain ⟨fuel, hf⟩ := h1
    exact opens33.2 _ _ _ _ _ _ _ _ _ hf
  obtain ⟨A1_3, c1_3, e1, g1_3, hr1_3⟩ := k33_open K1
  obtain rfl : cs1 = #[.int .i64 (x1.f0), .int .i64 (x1.f1.f0), .int .i64 (x1.f1.f1), .slice A1_3 (x1.f2).length c1_3] := by cases cs1; simpa using e1
  clear hA0 hval0
  obtain ⟨k, hp⟩ := Pure.LotPlaces l0 (x1.f0) (x1.f1.f0) (x1.f1.f1) (x1.f2) ok0 ok1.1 ok1.2.1.1 ok1.2.1.2 ok1.2.2
  have hG : GI W := GI.of_laid laidL (by simp [laidL]) hL
  refine (spilelaw22_LotPlaces.calls k _ _ l0 (x1.f0) (x1.f1.f0) (x1.f1.f1) _ _ (x1.f2) true W hr0 g0 hr1_3 g1_3 hG rfl hp).mono fun e W' ⟨he, bel⟩ => ?_
  subst he
  exact ⟨_, rfl, _, _, _, [], _, [], hW', trodAll_mk1 (shut_bool Tryd.underlying4 _), (trodAll_cons_mk (Below.trod laidOut (by kernel_rfl) (of_decide_eq_true (by kernel_rfl)) k0 bel lt0) (trodAll_cons_mk (Below.trod laidOut (by kernel_rfl) (of_decide_eq_true (by kernel_rfl)) k1 bel lt1) trodAll_mk0)), rfl, bel.frame _, fun h => by cases h⟩
theorem holds (hwit : ∀ (os : Os) (args : Array Value), laidMetH Tryd.prog laidL ((World.doorLaid Tryd.prog 400 os).forCall (fun _ _ => 0) ⟨#[], args, []⟩).memory) : Rows.LotPlacesSaid :=
  OpenClaim.holds_of_wide 6 Tryd.f6 rfl rfl rfl rfl rfl rfl rfl ⟨rfl, rfl, rfl, rfl, rfl⟩ rfl rfl rfl rfl rfl (by kernel_rfl) Tryd.func6 (by kernel_rfl)
    (of_decide_eq_true (by kernel_rfl)) (by unfold Func.isWrapper; first | (rw [if_pos (by decide +kernel)]; kernel_rfl) | (rw [if_neg (by decide +kernel)]; exact ⟨rfl, rfl⟩))
    (fun os started H enc _ => lifted os started H enc (hwit os))
theorem door_met (os : Os) (args : Array Value) : laidMetH Tryd.prog laidL ((World.doorLaid Tryd.prog 400 os).forCall (fun _ _ => 0) ⟨#[], args, []⟩).memory :=
  laidMetH_of_parts3 (fuel := 8) (laidMet_of_run' 8 (by kernel_rfl) (by kernel_rfl)) (by kernel_rfl) (by kernel_rfl)
theorem card : Rows.LotPlacesCardSaid :=
  Claim7.holds_tied_plain_at .later [] [.data, .data, .data] true (true, "6d3d5d07b3fa15e36186e74d1341de65e21d118781572820ba764e384a48d39d") true
    (holds door_met) (fun _ h => by cases h) (by kernel_rfl) (fun _ h => by cases h) lotPlaces_row_tie rfl ⟨rfl, rfl⟩ (by kernel_rfl) rfl
    (fun f fn hf hfn => by
      obtain rfl : f = 6 := Option.some.inj ((show Tryd.prog.funcNamed "spile/spilelaw22.LotPlaces" = some 6 by kernel_rfl).symm.trans hf) |>.symm
      obtain rfl : fn = Tryd.f6 := (Option.some.inj (Tryd.func6.symm.trans hfn)).symm
      exact ⟨by kernel_rfl, fun j t ht => by
        rw [Tryd.params6] at ht
        have hm : t ∈ [22, 33] := by simpa using Array.mem_of_getElem? ht
        have hall : ([22, 33].all fun u => !Tryd.prog.wantsStandIn u) = true := by kernel_rfl
        exact (show Tryd.prog.wantsStandIn t = false by simpa using List.all_eq_true.1 hall t hm)⟩)
    (by kernel_rfl)
end Go.Proofs.YtgjoenoknknoiaaDoor.lotPlaces
namespace Go.Proofs.YtgjoenoknknoiaaDoor
/-- The card, under a short name, for the claim. -/
theorem lotPlaces_holds : Rows.LotPlacesCardSaid := lotPlaces.card
#print axioms lotPlaces_holds
end Go.Proofs.YtgjoenoknknoiaaDoor
