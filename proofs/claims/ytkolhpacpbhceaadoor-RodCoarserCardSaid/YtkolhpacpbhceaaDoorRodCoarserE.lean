/-
The law RodCoarser returns true for every input that can be read as data, and leaves its arguments as they were: the row, and the card that ties the listed variables to the program's text.
No condition of its own beyond those that the given row prints.
-/
import Derived.HandedShaped
import Derived.Handed
import Derived.Test.YtkolhpacpbhceaaDoorCards
import Derived.Test.YtkolhpacpbhceaaDoorTie
import Derived.ProofKit
import Derived.OpenShut
import Derived.ShutString
import Derived.ChangeOld
import Derived.SizedLaws
import Derived.LaidMore
import Derived.Lay
import Derived.MakeChecks
import Derived.SevenTiedAt
import Derived.LaidSub
import Derived.LaidOnce
import Derived.Stop.Joined
import Derived.Stop.LaidErr
import Derived.Test.YtkolhpacpbhceaaDoorRodCoarserD
set_option linter.unusedVariables false
set_option linter.unusedSimpArgs false
namespace Go.Proofs.YtkolhpacpbhceaaDoor.PL
open Go Go.RowKit Go.Proofs.YtkolhpacpbhceaaDoorW.PrintWords Go.Proofs.YtkolhpacpbhceaaDoorW.PrintLast Go.Proofs.YtkolhpacpbhceaaDoorW.PrintMore Go.Proofs.YtkolhpacpbhceaaDoor.Pr Go.Proofs.YtkolhpacpbhceaaDoor.Opn Go.Proofs.YtkolhpacpbhceaaDoor.X
theorem halves (lo n : Int) (Q : Int → Prop) (L : Int → Int → Nat → Option Int)
    (hend : ∀ i, lo ≤ i → i ≤ n → Ev (L i i) i) (hyes : ∀ i j, lo ≤ i → i < j → j ≤ n → Q ((i + j) / 2) → ∀ r, Ev (L i ((i + j) / 2)) r → Ev (L i j) r)
    (hno : ∀ i j, lo ≤ i → i < j → j ≤ n → ¬ Q ((i + j) / 2) → ∀ r, Ev (L ((i + j) / 2 + 1) j) r → Ev (L i j) r)
    (mono : ∀ a b, lo ≤ a → a ≤ b → b < n → Q a → Q b) (hn : lo ≤ n) :
    ∃ r, Ev (L lo n) r ∧ lo ≤ r ∧ r ≤ n ∧ (∀ a, lo ≤ a → a < r → ¬ Q a) ∧ (∀ a, r ≤ a → a < n → Q a) := by
  have go : ∀ (d : Nat) (i j : Int), lo ≤ i → i ≤ j → j ≤ n → j - i ≤ d → (∀ a, lo ≤ a → a < i → ¬ Q a) → (∀ a, j ≤ a → a < n → Q a) →
      ∃ r, Ev (L i j) r ∧ lo ≤ r ∧ r ≤ n ∧ (∀ a, lo ≤ a → a < r → ¬ Q a) ∧ (∀ a, r ≤ a → a < n → Q a) := by
    intro d
    induction d with
    | zero =>
      intro i j h0 h1 h2 h3 hl hr
      obtain rfl : i = j := by omega
      exact ⟨i, hend i h0 h2, h0, h2, hl, hr⟩
    | succ d ih =>
      intro i j h0 h1 h2 h3 hl hr
      by_cases e : i = j
      · subst e
        exact ⟨i, hend i h0 h2, h0, h2, hl, hr⟩
      · by_cases q : Q ((i + j) / 2)
        · obtain ⟨r, hr2, h⟩ := ih i ((i + j) / 2) h0 (by omega) (by omega) (by omega) hl (fun a ha hb => mono ((i + j) / 2) a (by omega) ha hb q)
          exact ⟨r, hyes i j h0 (by omega) h2 q r hr2, h⟩
        · obtain ⟨r, hr2, h⟩ := ih ((i + j) / 2 + 1) j (by omega) (by omega) h2 (by omega) (fun a ha hb qa => q (mono a ((i + j) / 2) ha (by omega) (by omega) qa)) hr
          exact ⟨r, hno i j h0 (by omega) h2 q r hr2, h⟩
  exact go (n - lo).toNat lo n (Int.le_refl _) hn (Int.le_refl _) (by omega) (fun a h0 h1 => by omega) (fun a h0 h1 => by omega)
def Least (l : List S39) (v x : Int) : Prop := h0 l ≤ x ∧ x ≤ hN l ∧ v ≤ atL l x ∧ ∀ y, h0 l ≤ y → y < x → atL l y < v
theorem least_unique {l : List S39} {v x y : Int} (a : Least l v x) (b : Least l v y) : x = y := by
  rcases Int.lt_trichotomy x y with h | h | h
  · have := b.2.2.2 x a.1 h; have := a.2.2.1; omega
  · exact h
  · have := a.2.2.2 y b.1 h; have := b.2.2.1; omega
theorem least_mono {l : List S39} {v u x y : Int} (a : Least l v x) (b : Least l u y) (h : v ≤ u) : x ≤ y := by
  rcases Int.lt_or_le y x with q | q
  · have := a.2.2.2 y b.1 q; have := b.2.2.1; omega
  · exact q
theorem least_both {l : List S39} {t : Int} (h : OKT l t) (v : Int) (hv : v ≤ vN l) : ∃ x, Ev (fun k => rod_least.f k l t v) x ∧ Ev (fun k => spileref14_least.f k l t v) x ∧ Least l v x := by
  have f := facts h
  have n2 := h.1
  have n3 := h.2.1
  have hp := w64_pred (i := (l.length : Int)) (by omega) (Int.le_refl _) (by omega)
  have q0 : 0 ≤ wrap64 ((l.length : Int) - 1) := by rw [hp]; omega
  have q1 : wrap64 ((l.length : Int) - 1) < (l.length : Int) := by rw [hp]; omega
  have b0 := f.h0le
  have bN := f.hNle
  have b1 := f.h01
  have eN : (rd_T39 l (wrap64 ((l.length : Int) - 1))).f0 = hN l := by rw [hp]; rfl
  have e0 : (rd_T39 l 0).f0 = h0 l := rfl
  have one : ∀ a, 0 ≤ a → a < hN l - h0 l → Ev (fun k => rod_least_1.f k a l t (h0 l) v) (decide (atL l (h0 l + a) ≥ v)) := fun a g0 g1 => by
    have q := (Read_both h (wrap64 (h0 l + a))).1
    rw [w64 (by omega) (by omega)] at q
    unfold rdR at q
    rw [if_neg (by omega), if_neg (by omega)] at q
    unfold rod_least_1.f
    rw [w64 (x := h0 l + a) (by omega) (by omega)]
    exact evb q (Ev.now _)
  obtain ⟨r, r1, r2, r3, r4, r5⟩ := halves 0 (hN l - h0 l) (fun a => v ≤ atL l (h0 l + a)) (fun i j k => sort_Search_52_at_53.l0 k i j l t (h0 l) v)
    (fun i g0 g1 => Ev.step (fun k => sort_Search_52_at_53.l0.eq_2 ..) (evn (by omega) (Ev.now _)))
    (fun i j g0 g1 g2 q r hr => by
      have hh := half g0 g1 (by omega)
      refine Ev.step (fun k => sort_Search_52_at_53.l0.eq_2 ..) (evp g1 ?_)
      rw [hh]
      exact evb (one _ (by omega) (by omega)) (evp (decide_eq_true q) hr))
    (fun i j g0 g1 g2 q r hr => by
      have hh := half g0 g1 (by omega)
      refine Ev.step (fun k => sort_Search_52_at_53.l0.eq_2 ..) (evp g1 ?_)
      rw [hh]
      refine evb (one _ (by omega) (by omega)) (evn (by simpa using q) ?_)
      rw [w64 (by omega) (by omega)]
      exact hr)
    (fun a b g0 g1 g2 q => Int.le_trans q (f.mono _ _ (by omega) (by omega) (by omega))) (by omega)
  have L1 : Least l v (h0 l + r) := by
    refine ⟨by omega, by omega, ?_, fun y y0 y1 => ?_⟩
    · rcases Int.lt_or_le r (hN l - h0 l) with c | c
      · exact r5 r (Int.le_refl _) c
      · rw [show h0 l + r = hN l from by omega, f.last]; exact hv
    · have := r4 (y - h0 l) (by omega) (by omega)
      rw [show h0 l + (y - h0 l) = y from by omega] at this
      omega
  have R1 : Ev (fun k => rod_least.f k l t v) (h0 l + r) := by
    refine evp (by omega) (evp q0 (evp q1 ?_))
    rw [eN, e0, w64 (x := hN l - h0 l) (by omega) (by omega)]
    exact evb r1 (evr (w64 (by omega) (by omega)))
  obtain ⟨z, z1, z2, z3, z4, z5⟩ := halves (h0 l) (hN l) (fun a => v ≤ atL l a) (fun i j k => spileref14_least.l0 k v i j l t)
    (fun i g0 g1 => Ev.step (fun k => spileref14_least.l0.eq_2 ..) (evn (by omega) (Ev.now _)))
    (fun i j g0 g1 g2 q r hr => by
      have hh : wrap64 (Int.tdiv (wrap64 (i + j)) 2) = (i + j) / 2 := by
        rw [w64 (x := i + j) (by omega) (by omega), Int.tdiv_eq_ediv_of_nonneg (by omega), w64 (by omega) (by omega)]
      refine Ev.step (fun k => spileref14_least.l0.eq_2 ..) (evp g1 ?_)
      rw [hh]
      exact evb (read_both h _ (by omega) (by omega)).2 (evp q hr))
    (fun i j g0 g1 g2 q r hr => by
      have hh : wrap64 (Int.tdiv (wrap64 (i + j)) 2) = (i + j) / 2 := by
        rw [w64 (x := i + j) (by omega) (by omega), Int.tdiv_eq_ediv_of_nonneg (by omega), w64 (by omega) (by omega)]
      refine Ev.step (fun k => spileref14_least.l0.eq_2 ..) (evp g1 ?_)
      rw [hh]
      refine evb (read_both h _ (by omega) (by omega)).2 (evn q ?_)
      rw [w64 (by omega) (by omega)]
      exact hr)
    (fun a b g0 g1 g2 q => Int.le_trans q (f.mono _ _ g0 g1 (by omega))) b1
  have L2 : Least l v z := by
    refine ⟨z2, z3, ?_, fun y y0 y1 => ?_⟩
    · rcases Int.lt_or_le z (hN l) with c | c
      · exact z5 z (Int.le_refl _) c
      · rw [show z = hN l from by omega, f.last]; exact hv
    · have := z4 y y0 y1; omega
  have R2 : Ev (fun k => spileref14_least.f k l t v) z := by
    refine evp (by omega) (evp q0 (evp q1 ?_))
    rw [eN, e0]
    exact z1
  rw [least_unique L2 L1] at R2
  exact ⟨_, R1, R2, L1⟩
def Chain (l : List S39) (s : Int) : Int → List S39 → Prop
  | _, [] => True
  | p, m :: r => (Least l (p + s) m.f0 ∧ m.f1 = atL l m.f0 / s * s ∧ p + s ≤ vN l) ∧ Chain l s m.f1 r
def endV : Int → List S39 → Int
  | p, [] => p
  | _, m :: r => endV m.f1 r
theorem endV_snoc : ∀ (out : List S39) (p : Int) (m : S39), endV p (out ++ [m]) = m.f1
  | [], _, _ => rfl
  | x :: r, _, m => endV_snoc r x.f1 m
theorem chain_snoc {l : List S39} {s : Int} : ∀ (out : List S39) (p : Int) (m : S39), Chain l s p out → Least l (endV p out + s) m.f0 → m.f1 = atL l m.f0 / s * s → endV p out + s ≤ vN l → Chain l s p (out ++ [m])
  | [], p, m, _, a, b, c => ⟨⟨a, b, c⟩, trivial⟩
  | x :: r, p, m, h, a, b, c => ⟨h.1, chain_snoc r x.f1 m h.2 a b c⟩
theorem floor_le {a s : Int} (hs : 0 < s) : a / s * s ≤ a ∧ a < a / s * s + s := by
  have h1 := Int.emod_nonneg a (b := s) (by omega)
  have h2 := Int.emod_lt_of_pos a hs
  have h3 := Int.emod_def a s
  rw [Int.mul_comm] at h3
  omega
theorem floor_ge {a s q : Int} (hs : 0 < s) (h : q * s ≤ a) : q * s ≤ a / s * s :=
  Int.mul_le_mul_of_nonneg_right ((Int.le_ediv_iff_mul_le hs).2 h) (by omega)
/-- What Make comes to. -/
def Made (l : List S39) (s : Int) (r : List S39 × Int) : Prop := r = ([], 8) ∨ (r.2 = 0 ∧ r.1 ≠ [] ∧ (r.1.length : Int) ≤ 128 ∧ Chain l s 0 r.1 ∧ endV 0 r.1 + s > vN l)
theorem make_loop {l : List S39} {t : Int} (h : OKT l t) {s : Int} (s1 : 1 ≤ s) (s2 : s ≤ 1073741824) : ∀ (d : Nat) (out : List S39) (p : Int), out.length + d = 128 → endV 0 out = p → Chain l s 0 out → 0 ≤ p → p ≤ vN l → (out ≠ [] ∨ p + s ≤ vN l) →
    ∃ r, Ev (fun k => rod_Make.l0 k s out (vN l) (p + s) l t) r ∧ Ev (fun k => spileref14_Make.l0 k s out (p + s) l t (hN l) (vN l)) r ∧ Made l s r := by
  have f := facts h
  have bV := f.vNle
  intro d
  induction d with
  | zero =>
    intro out p hd hp hc p0 p1 hne
    by_cases c : p + s ≤ vN l
    · obtain ⟨x, x1, x2, x3⟩ := least_both h (p + s) c
      have rd := (Read_both h x).1
      unfold rdR at rd
      rw [if_neg (by have := x3.1; omega), if_neg (by have := x3.2.1; omega)] at rd
      have rd2 := (read_both h x x3.1 x3.2.1).2
      have l129 : ∀ m : S39, ((out ++ [m]).length : Int) > 128 := fun m => by rw [List.length_append]; simp; omega
      exact ⟨([], 8), Ev.step (fun k => rod_Make.l0.eq_2 ..) (evp c (evb x1 (evb rd (evn (by omega) (evp (by omega) (evb (Ev.now _) (evp (l129 _) (Ev.now _)))))))),
        Ev.step (fun k => spileref14_Make.l0.eq_2 ..) (evp c (evb x2 (evb rd2 (evn (by omega) (evp (by omega) (evb (Ev.now _) (evp (l129 _) (Ev.now _)))))))), .inl rfl⟩
    · have hn : out ≠ [] := by rcases hne with q | q; exact q; exact absurd q c
      have hl : ¬ (out.length : Int) = 0 := fun q => hn (List.eq_nil_of_length_eq_zero (by omega))
      exact ⟨(out, 0), Ev.step (fun k => rod_Make.l0.eq_2 ..) (evn c (evn hl (Ev.now _))), Ev.step (fun k => spileref14_Make.l0.eq_2 ..) (evn c (Ev.now _)), .inr ⟨rfl, hn, by show (out.length : Int) ≤ 128; omega, hc, by show endV 0 out + s > vN l; omega⟩⟩
  | succ d ih =>
    intro out p hd hp hc p0 p1 hne
    by_cases c : p + s ≤ vN l
    · obtain ⟨x, x1, x2, x3⟩ := least_both h (p + s) c
      have rd := (Read_both h x).1
      unfold rdR at rd
      rw [if_neg (by have := x3.1; omega), if_neg (by have := x3.2.1; omega)] at rd
      have rd2 := (read_both h x x3.1 x3.2.1).2
      have bd := f.bounds x x3.1 x3.2.1
      have fl := floor_le (a := atL l x) (s := s) (by omega)
      have fg : 0 ≤ atL l x / s * s := Int.mul_nonneg (Int.ediv_nonneg bd.1 (by omega)) (by omega)
      have dv := Int.ediv_le_self s bd.1
      have dv0 := Int.ediv_nonneg bd.1 (b := s) (by omega)
      have w1 : wrap64 (Int.tdiv (atL l x) s) = atL l x / s := by rw [Int.tdiv_eq_ediv_of_nonneg bd.1, w64 (by omega) (by omega)]
      have w2 : wrap64 (atL l x / s * s) = atL l x / s * s := w64 (by omega) (by omega)
      have w3 : wrap64 (atL l x / s * s + s) = atL l x / s * s + s := w64 (by omega) (by omega)
      have lm : ¬ ((out ++ [(⟨x, atL l x / s * s⟩ : S39)]).length : Int) > 128 := by rw [List.length_append]; simp; omega
      obtain ⟨r, r1, r2, r3⟩ := ih (out ++ [(⟨x, atL l x / s * s⟩ : S39)]) (atL l x / s * s) (by rw [List.length_append]; simp; omega) (endV_snoc _ _ _) (chain_snoc out 0 _ hc (by rw [hp]; exact x3) rfl (by rw [hp]; exact c)) fg (by omega) (.inl (by simp))
      refine ⟨r, Ev.step (fun k => rod_Make.l0.eq_2 ..) (evp c (evb x1 (evb rd (evn (by omega) (evp (by omega) ?_))))), Ev.step (fun k => spileref14_Make.l0.eq_2 ..) (evp c (evb x2 (evb rd2 (evn (by omega) (evp (by omega) ?_))))), r3⟩
      · simp only []
        rw [w1, w2, w3]
        exact evb (Ev.now _) (evn lm r1)
      · rw [w1, w2, w3]
        exact evb (Ev.now _) (evn lm r2)
    · have hn : out ≠ [] := by rcases hne with q | q; exact q; exact absurd q c
      have hl : ¬ (out.length : Int) = 0 := fun q => hn (List.eq_nil_of_length_eq_zero (by omega))
      exact ⟨(out, 0), Ev.step (fun k => rod_Make.l0.eq_2 ..) (evn c (evn hl (Ev.now _))), Ev.step (fun k => spileref14_Make.l0.eq_2 ..) (evn c (Ev.now _)), .inr ⟨rfl, hn, by show (out.length : Int) ≤ 128; omega, hc, by show endV 0 out + s > vN l; omega⟩⟩
theorem make_both (l : List S39) (t s : Int) (hl : (l.length : Int) ≤ 9223372036854775807) : ∃ r, Ev (fun k => rod_Make.f k l t s) r ∧ Ev (fun k => spileref14_Make.f k l t s) r ∧ (r.2 = 0 → OKT l t ∧ 1 ≤ s ∧ s ≤ 1073741824 ∧ r.1 ≠ [] ∧ (r.1.length : Int) ≤ 128 ∧ Chain l s 0 r.1 ∧ endV 0 r.1 + s > vN l) ∧ (r.2 ≠ 0 → r.1 = []) := by
  obtain ⟨e, e1, e2, e3⟩ := tab_both l t hl
  by_cases ok : OKT l t
  case neg =>
    have he : ¬ e = 0 := fun q => ok (e3.1 q)
    exact ⟨([], 1), evb e1 (evn he (Ev.now _)), evb e2 (evn he (Ev.now _)), (fun q => by cases q), (fun _ => rfl)⟩
  obtain rfl := e3.2 ok
  have n2 := ok.1
  have n3 := ok.2.1
  have hp := w64_pred (i := (l.length : Int)) (by omega) (Int.le_refl _) (by omega)
  have q0 : 0 ≤ wrap64 ((l.length : Int) - 1) := by rw [hp]; omega
  have q1 : wrap64 ((l.length : Int) - 1) < (l.length : Int) := by rw [hp]; omega
  have eN : (rd_T39 l (wrap64 ((l.length : Int) - 1))).f0 = hN l := by rw [hp]; rfl
  have eV : (rd_T39 l (wrap64 ((l.length : Int) - 1))).f1 = vN l := by rw [hp]; rfl
  by_cases c1 : s < 1
  · exact ⟨([], 2), evb e1 (evp rfl (evp c1 (Ev.step (fun k => rod_Make.j0.eq_2 ..) (evp rfl (Ev.now _))))), evb e2 (evp rfl (evp c1 (Ev.step (fun k => spileref14_Make.j0.eq_2 ..) (evp rfl (Ev.now _))))), (fun q => by cases q), (fun _ => rfl)⟩
  by_cases c2 : s > 1073741824
  · have cd := decide_eq_true c2
    exact ⟨([], 2), evb e1 (evp rfl (evn c1 (by rw [cd]; exact Ev.step (fun k => rod_Make.j0.eq_2 ..) (evp rfl (Ev.now _))))), evb e2 (evp rfl (evn c1 (by rw [cd]; exact Ev.step (fun k => spileref14_Make.j0.eq_2 ..) (evp rfl (Ev.now _))))), (fun q => by cases q), (fun _ => rfl)⟩
  have cd := decide_eq_false c2
  have pre1 : ∀ r, Ev (fun k => rod_Make.l0 k s ([] : List S39) (vN l) s l t) r → Ev (fun k => rod_Make.f k l t s) r := fun r hr => by
    refine evb e1 (evp rfl (evn c1 ?_))
    rw [cd]
    refine Ev.step (fun k => rod_Make.j0.eq_2 ..) (evn (by simp) (evp q0 (evp q1 ?_)))
    rw [eV]
    exact hr
  have v0 := (facts ok).bounds (hN l) (facts ok).h01 (Int.le_refl _)
  rw [(facts ok).last] at v0
  by_cases c3 : vN l < s
  · refine ⟨([], 9), pre1 _ (Ev.step (fun k => rod_Make.l0.eq_2 ..) (evn (by omega) (evp (by simp) (Ev.now _)))), evb e2 (evp rfl (evn c1 ?_)), (fun q => by cases q), (fun _ => rfl)⟩
    rw [cd]
    refine Ev.step (fun k => spileref14_Make.j0.eq_2 ..) (evn (by simp) (evp q0 (evp q1 ?_)))
    rw [eV]
    exact evp c3 (Ev.now _)
  · obtain ⟨r, r1, r2, r3⟩ := make_loop ok (s := s) (by omega) (by omega) 128 [] 0 rfl rfl trivial (Int.le_refl _) v0.1 (.inr (by omega))
    rw [Int.zero_add] at r1 r2
    refine ⟨r, pre1 _ r1, evb e2 (evp rfl (evn c1 ?_)), fun q => ?_, fun q => ?_⟩
    · rw [cd]
      refine Ev.step (fun k => spileref14_Make.j0.eq_2 ..) (evn (by simp) (evp q0 (evp q1 ?_)))
      rw [eV, eN]
      exact evn c3 r2
    · rcases r3 with e | ⟨_, a, b, c, d⟩
      · rw [e] at q; cases q
      · exact ⟨ok, by omega, by omega, a, b, c, d⟩
    · rcases r3 with e | ⟨a, _⟩
      · rw [e]
      · exact absurd a q
theorem chain_marks {l : List S39} {t : Int} (h : OKT l t) {s : Int} (s1 : 1 ≤ s) : ∀ (out : List S39) (q : Int), 0 ≤ q → Chain l s (q * s) out → ∀ m, m ∈ out →
    h0 l ≤ m.f0 ∧ m.f0 ≤ hN l ∧ (∃ u, m.f1 = u * s) ∧ q * s + s ≤ m.f1 ∧ m.f1 ≤ atL l m.f0 ∧ atL l m.f0 < m.f1 + s ∧ ∀ y, h0 l ≤ y → y < m.f0 → atL l y < m.f1
  | [], q, q0, hc, m, hm => by simp at hm
  | x :: r, q, q0, hc, m, hm => by
    obtain ⟨⟨L, e, c⟩, hr⟩ := hc
    have bd := (facts h).bounds x.f0 L.1 L.2.1
    have fl := floor_le (a := atL l x.f0) (s := s) (by omega)
    have fg := floor_ge (a := atL l x.f0) (s := s) (q := q + 1) (by omega) (by rw [Int.add_mul, Int.one_mul]; exact L.2.2.1)
    rw [Int.add_mul, Int.one_mul, ← e] at fg
    rw [← e] at fl
    rcases List.mem_cons.1 hm with rfl | hm
    · exact ⟨L.1, L.2.1, ⟨_, e⟩, fg, fl.1, fl.2, fun y y0 y1 => Int.lt_of_lt_of_le (L.2.2.2 y y0 y1) fg⟩
    · rw [e] at hr
      have := chain_marks h s1 r (atL l x.f0 / s) (Int.ediv_nonneg bd.1 (by omega)) hr m hm
      rw [← e] at this
      obtain ⟨a1, a2, a3, a4, a5⟩ := this
      exact ⟨a1, a2, a3, by omega, a5⟩
theorem chain_drop {l : List S39} {s : Int} : ∀ (n : Nat) (out : List S39) (p : Int), Chain l s p out → Chain l s (endV p (out.take n)) (out.drop n)
  | 0, out, p, h => by rw [List.take_zero, List.drop_zero]; exact h
  | n + 1, [], p, h => trivial
  | n + 1, x :: r, p, h => chain_drop n r x.f1 h.2
theorem chain_pair {l : List S39} {s : Int} {out : List S39} {p : Int} (h : Chain l s p out) {j : Int} (j1 : 1 ≤ j) (j2 : j < (out.length : Int)) : Least l ((rd_T39 out (j - 1)).f1 + s) (rd_T39 out j).f0 := by
  have := chain_drop (j - 1).toNat out p h
  rw [drop39 (i := j - 1) (by omega) (by omega), show j - 1 + 1 = j from by omega, drop39 (i := j) (by omega) j2] at this
  exact this.2.1.1
def RngR (x : S39) : Prop := 0 ≤ x.f0 ∧ x.f0 ≤ 200000 ∧ 1 ≤ x.f1 ∧ x.f1 ≤ 4294967296
def StpR (x y : S39) : Prop := x.f0 < y.f0 ∧ x.f1 < y.f1
def OKR (l : List S39) : Prop := 1 ≤ (l.length : Int) ∧ (l.length : Int) ≤ 128 ∧ (∀ j, 0 ≤ j → j < (l.length : Int) → RngR (rd_T39 l j)) ∧ (∀ j, 1 ≤ j → j < (l.length : Int) → StpR (rd_T39 l (j - 1)) (rd_T39 l j))
theorem badR_eq (x : S39) : ∃ b, rod_Check_1.f x.f0 x.f1 = some b ∧ (b = true ↔ ¬ RngR x) := by
  unfold rod_Check_1.f RngR
  by_cases h1 : x.f0 < 0
  · exact ⟨true, by rw [if_pos h1], by simp; omega⟩
  by_cases h2 : x.f0 > 200000
  · exact ⟨true, by rw [if_neg h1, if_pos h2], by simp; omega⟩
  by_cases h3 : x.f1 < 1
  · exact ⟨true, by rw [if_neg h1, if_neg h2, if_pos h3], by simp; omega⟩
  refine ⟨decide (x.f1 > 4294967296), by rw [if_neg h1, if_neg h2, if_neg h3], ?_⟩
  rw [decide_eq_true_iff]
  omega
theorem range_rod (l : List S39) (hl : (l.length : Int) ≤ 9223372036854775807) : ∀ i, 0 ≤ i → i ≤ (l.length : Int) →
    ∃ r, Ev (fun k => api_Mark_38_at_41.l0 k l (l.length : Int) i) r ∧ (r ≥ 0 ↔ ¬ ∀ j, i ≤ j → j < (l.length : Int) → RngR (rd_T39 l j)) := by
  refine count_up 0 (l.length : Int) _ ?_ ?_
  · exact ⟨-1, Ev.step (fun k => api_Mark_38_at_41.l0.eq_2 ..) (evn (by omega) (Ev.now _)), by constructor; omega; exact fun h => absurd (fun j h1 h2 => by omega) h⟩
  · intro i h0 h1 ih
    obtain ⟨b, hb, hb2⟩ := badR_eq (rd_T39 l i)
    have hs := w64_succ h0 h1 hl
    by_cases c : RngR (rd_T39 l i)
    · obtain ⟨r, r1, r2⟩ := ih
      have hbf : ¬ b = true := fun h => hb2.1 h c
      refine ⟨r, Ev.step (fun k => api_Mark_38_at_41.l0.eq_2 ..) (evp h1 (evp h0 (evp h1 (evb (evc (fun _ => rfl) hb) (evn hbf (by rw [hs]; exact r1)))))), r2.trans (not_congr ⟨fun h j a q => ?_, fun h j a q => h j (by omega) q⟩)⟩
      by_cases e : j = i
      · rw [e]; exact c
      · exact h j (by omega) q
    · exact ⟨i, Ev.step (fun k => api_Mark_38_at_41.l0.eq_2 ..) (evp h1 (evp h0 (evp h1 (evb (evc (fun _ => rfl) hb) (evp (hb2.2 c) (Ev.now _)))))), ⟨fun _ h => c (h i (Int.le_refl _) h1), fun _ => h0⟩⟩
theorem orderR_both (l : List S39) (hn : (l.length : Int) ≤ 128) : ∀ i, 1 ≤ i → i ≤ (l.length : Int) →
    ∃ e, Ev (fun k => rod_Check.l0 k l i) e ∧ Ev (fun k => spileref14_Check.l1 k l i) e ∧ (e = 0 ↔ ∀ j, i ≤ j → j < (l.length : Int) → StpR (rd_T39 l (j - 1)) (rd_T39 l j)) := by
  refine count_up 1 (l.length : Int) _ ?_ ?_
  · exact ⟨0, Ev.step (fun k => rod_Check.l0.eq_2 ..) (evn (by omega) (Ev.now _)), Ev.step (fun k => spileref14_Check.l1.eq_2 ..) (evn (by omega) (Ev.now _)), ⟨fun _ j a b => by omega, fun _ => rfl⟩⟩
  · intro i h0 h1 ih
    have hs := w64_succ (i := i) (by omega) h1 (by omega)
    have hp := w64_pred (i := i) (by omega) (Int.le_of_lt h1) (by omega)
    have q0 : 0 ≤ wrap64 (i - 1) := by rw [hp]; omega
    have q1 : wrap64 (i - 1) < (l.length : Int) := by rw [hp]; omega
    by_cases c1 : (rd_T39 l (wrap64 (i - 1))).f0 ≥ (rd_T39 l i).f0
    · refine ⟨5, Ev.step (fun k => rod_Check.l0.eq_2 ..) (evp h1 (evp q0 (evp q1 (evp (by omega) (evp c1 (Ev.now _)))))), Ev.step (fun k => spileref14_Check.l1.eq_2 ..) (evp h1 (evp q0 (evp q1 (evp (by omega) (evp c1 (Ev.now _)))))), ⟨fun h => by omega, fun h => ?_⟩⟩
      rw [hp] at c1
      have := (h i (by omega) h1).1
      omega
    by_cases c2 : (rd_T39 l (wrap64 (i - 1))).f1 ≥ (rd_T39 l i).f1
    · refine ⟨5, Ev.step (fun k => rod_Check.l0.eq_2 ..) (evp h1 (evp q0 (evp q1 (evp (by omega) (evn c1 (evp c2 (Ev.now _))))))), Ev.step (fun k => spileref14_Check.l1.eq_2 ..) (evp h1 (evp q0 (evp q1 (evp (by omega) (evn c1 (evp c2 (Ev.now _))))))), ⟨fun h => by omega, fun h => ?_⟩⟩
      rw [hp] at c2
      have := (h i (by omega) h1).2
      omega
    · obtain ⟨e, e1, e2, e3⟩ := ih
      refine ⟨e, Ev.step (fun k => rod_Check.l0.eq_2 ..) (evp h1 (evp q0 (evp q1 (evp (by omega) (evn c1 (evn c2 (by rw [hs]; exact e1))))))), Ev.step (fun k => spileref14_Check.l1.eq_2 ..) (evp h1 (evp q0 (evp q1 (evp (by omega) (evn c1 (evn c2 (by rw [hs]; exact e2))))))), e3.trans ⟨fun h j a b => ?_, fun h j a b => h j (by omega) b⟩⟩
      by_cases z : j = i
      · rw [hp] at c1 c2; rw [z]; exact ⟨by omega, by omega⟩
      · exact h j (by omega) b
theorem rangeR_ref (l : List S39) (e : Int) (hl : (l.length : Int) ≤ 9223372036854775807) (he : Ev (fun k => spileref14_Check.l1 k l 1) e) : ∀ i, 0 ≤ i → i ≤ (l.length : Int) →
    ((∀ j, i ≤ j → j < (l.length : Int) → RngR (rd_T39 l j)) → Ev (fun k => spileref14_Check.l0 k l i) e) ∧ ((¬ ∀ j, i ≤ j → j < (l.length : Int) → RngR (rd_T39 l j)) → Ev (fun k => spileref14_Check.l0 k l i) 2) := by
  refine count_up 0 (l.length : Int) _ ?_ ?_
  · exact ⟨fun _ => Ev.step (fun k => spileref14_Check.l0.eq_2 ..) (evn (by omega) he), fun h => absurd (fun j a b => by omega) h⟩
  · intro i h0 h1 ih
    have hs := w64_succ h0 h1 hl
    by_cases c : RngR (rd_T39 l i)
    · have up : ∀ r, Ev (fun k => spileref14_Check.l0 k l (i + 1)) r → Ev (fun k => spileref14_Check.l0 k l i) r := fun r h => by
        have c' := c
        unfold RngR at c'
        exact Ev.step (fun k => spileref14_Check.l0.eq_2 ..) (evp h1 (evp h0 (evn (by omega) (evn (by omega) (evn (by omega) (evn (by omega) (by rw [hs]; exact h)))))))
      refine ⟨fun h => up _ (ih.1 fun j a b => h j (by omega) b), fun h => up _ (ih.2 fun h2 => h fun j a b => ?_)⟩
      by_cases z : j = i
      · rw [z]; exact c
      · exact h2 j (by omega) b
    · refine ⟨fun h => absurd (h i (Int.le_refl _) h1) c, fun _ => ?_⟩
      unfold RngR at c
      by_cases d1 : (rd_T39 l i).f0 < 0
      · exact Ev.step (fun k => spileref14_Check.l0.eq_2 ..) (evp h1 (evp h0 (evp d1 (Ev.now _))))
      by_cases d2 : (rd_T39 l i).f0 > 200000
      · exact Ev.step (fun k => spileref14_Check.l0.eq_2 ..) (evp h1 (evp h0 (evn d1 (evp d2 (Ev.now _)))))
      by_cases d3 : (rd_T39 l i).f1 < 1
      · exact Ev.step (fun k => spileref14_Check.l0.eq_2 ..) (evp h1 (evp h0 (evn d1 (evn d2 (evp d3 (Ev.now _))))))
      · exact Ev.step (fun k => spileref14_Check.l0.eq_2 ..) (evp h1 (evp h0 (evn d1 (evn d2 (evn d3 (evp (by omega) (Ev.now _)))))))
theorem rod_both (l : List S39) (hl : (l.length : Int) ≤ 9223372036854775807) : ∃ e, Ev (fun k => rod_Check.f k l) e ∧ Ev (fun k => spileref14_Check.f k l) e ∧ (e = 0 ↔ OKR l) := by
  by_cases a1 : (l.length : Int) = 0
  · exact ⟨9, evp a1 (Ev.now _), evp a1 (Ev.now _), ⟨fun h => by omega, fun h => by have := h.1; omega⟩⟩
  by_cases a2 : (l.length : Int) > 128
  · exact ⟨8, evn a1 (evp a2 (Ev.now _)), evn a1 (evp a2 (Ev.now _)), ⟨fun h => by omega, fun h => by have := h.2.1; omega⟩⟩
  obtain ⟨e, e1, e2, e3⟩ := orderR_both l (by omega) 1 (Int.le_refl _) (by omega)
  obtain ⟨r, r1, r2⟩ := range_rod l hl 0 (Int.le_refl _) (by omega)
  have ref := rangeR_ref l e hl e2 0 (Int.le_refl _) (by omega)
  by_cases hr : ∀ j, 0 ≤ j → j < (l.length : Int) → RngR (rd_T39 l j)
  · refine ⟨e, evn a1 (evn a2 (evb (evb r1 (Ev.now _)) (evn ?_ e1))), evn a1 (evn a2 (ref.1 hr)), e3.trans ⟨fun h => ⟨by omega, by omega, hr, h⟩, fun h => h.2.2.2⟩⟩
    rw [decide_eq_false (fun h => r2.1 h hr)]; simp
  · exact ⟨2, evn a1 (evn a2 (evb (evb r1 (Ev.now _)) (evp (decide_eq_true (r2.2 hr)) (Ev.now _)))), evn a1 (evn a2 (ref.2 hr)), ⟨fun h => by omega, fun h => absurd h.2.2.1 hr⟩⟩
theorem made_rod {l : List S39} {t : Int} (h : OKT l t) {s : Int} (s1 : 1 ≤ s) {out : List S39} (hn : out ≠ []) (hl : (out.length : Int) ≤ 128) (hc : Chain l s 0 out) : OKR out := by
  have f := facts h
  have b0 := f.h0le
  have bN := f.hNle
  have bV := f.vNle
  have hlen : 1 ≤ (out.length : Int) := by
    rcases Nat.eq_zero_or_pos out.length with z | z
    · exact absurd (List.eq_nil_of_length_eq_zero z) hn
    · omega
  have marks := chain_marks h s1 out 0 (Int.le_refl _) (by rw [Int.zero_mul]; exact hc)
  refine ⟨hlen, hl, fun j j0 j1 => ?_, fun j j0 j1 => ?_⟩
  · have m := marks _ (rd39_mem j0 j1)
    have bd := f.bounds _ m.1 m.2.1
    rw [Int.zero_mul] at m
    exact ⟨by omega, by omega, by omega, by omega⟩
  · have m := marks _ (rd39_mem (l := out) (i := j - 1) (by omega) (by omega))
    have m2 := marks _ (rd39_mem (l := out) (i := j) (by omega) j1)
    have L := chain_pair hc j0 j1
    have lt : (rd_T39 out (j - 1)).f0 < (rd_T39 out j).f0 := by
      rcases Int.lt_or_le (rd_T39 out (j - 1)).f0 (rd_T39 out j).f0 with q | q
      · exact q
      · have := f.mono _ _ L.1 q m.2.1
        have := L.2.2.1
        omega
    refine ⟨lt, ?_⟩
    have := m2.2.2.2.2.2.2 _ m.1 lt
    omega
end Go.Proofs.YtkolhpacpbhceaaDoor.PL
namespace Go.Proofs.YtkolhpacpbhceaaDoor.PL
open Go Go.RowKit Go.Proofs.YtkolhpacpbhceaaDoorW.PrintWords Go.Proofs.YtkolhpacpbhceaaDoorW.PrintLast Go.Proofs.YtkolhpacpbhceaaDoorW.PrintMore Go.Proofs.YtkolhpacpbhceaaDoor.Pr Go.Proofs.YtkolhpacpbhceaaDoor.Opn Go.Proofs.YtkolhpacpbhceaaDoor.X
def Agree (l : List S39) (tol : Int) (m : S39) : Prop := (rdR l m.f0).2 = 0 ∧ ¬ wrap64 ((rdR l m.f0).1 - m.f1) > tol ∧ ¬ wrap64 (m.f1 - (rdR l m.f0).1) > tol
theorem compare_one {l : List S39} {t : Int} (h : OKT l t) (tol : Int) (m : S39) : ∃ b, Ev (fun k => rod_Compare_1.f k m.f0 m.f1 l t tol) b ∧ (b = true ↔ ¬ Agree l tol m) := by
  have r := (Read_both h m.f0).1
  unfold Agree
  by_cases c1 : (rdR l m.f0).2 = 0
  · by_cases c2 : wrap64 ((rdR l m.f0).1 - m.f1) > tol
    · exact ⟨true, evb r (evp c1 (evp c2 (Ev.now _))), by simp [c2]⟩
    · refine ⟨_, evb r (evp c1 (evn c2 (Ev.now _))), ?_⟩
      rw [decide_eq_true_iff]
      exact ⟨fun q a => a.2.2 q, fun q => Decidable.byContradiction (fun z => q ⟨c1, c2, z⟩)⟩
  · exact ⟨true, evb r (evn c1 (Ev.now _)), by simp [c1]⟩
theorem compare_loop {l : List S39} {t : Int} (h : OKT l t) (tol : Int) (r : List S39) (hr : (r.length : Int) ≤ 128) : ∀ i, 0 ≤ i → i ≤ (r.length : Int) →
    ∃ z, Ev (fun k => api_Mark_38_at_39.l0 k r (r.length : Int) i l t tol) z ∧ Ev (fun k => spileref14_Compare.l0 k r tol i l t) (z, 0) ∧ ((∀ j, i ≤ j → j < (r.length : Int) → Agree l tol (rd_T39 r j)) → z = -1) := by
  refine count_up 0 (r.length : Int) _ ?_ ?_
  · exact ⟨-1, Ev.step (fun k => api_Mark_38_at_39.l0.eq_2 ..) (evn (by omega) (Ev.now _)), Ev.step (fun k => spileref14_Compare.l0.eq_2 ..) (evn (by omega) (Ev.now _)), fun _ => rfl⟩
  · intro i h0 h1 ih
    have hs := w64_succ h0 h1 (by omega)
    obtain ⟨b, b1, b2⟩ := compare_one h tol (rd_T39 r i)
    have rd := (Read_both h (rd_T39 r i).f0).2
    by_cases c : Agree l tol (rd_T39 r i)
    · obtain ⟨z, z1, z2, z3⟩ := ih
      have nb : ¬ b = true := fun q => b2.1 q c
      refine ⟨z, Ev.step (fun k => api_Mark_38_at_39.l0.eq_2 ..) (evp h1 (evp h0 (evp h1 (evb b1 (evn nb (by rw [hs]; exact z1)))))), Ev.step (fun k => spileref14_Compare.l0.eq_2 ..) (evp h1 (evp h0 (evb rd (evp c.1 (evn c.2.1 (evn c.2.2 (by rw [hs]; exact z2))))))), fun q => z3 (fun j a b => q j (by omega) b)⟩
    · refine ⟨i, Ev.step (fun k => api_Mark_38_at_39.l0.eq_2 ..) (evp h1 (evp h0 (evp h1 (evb b1 (evp (b2.2 c) (Ev.now _)))))), Ev.step (fun k => spileref14_Compare.l0.eq_2 ..) (evp h1 (evp h0 (evb rd ?_))), fun q => absurd (q i (Int.le_refl _) h1) c⟩
      unfold Agree at c
      by_cases c1 : (rdR l (rd_T39 r i).f0).2 = 0
      · by_cases c2 : wrap64 ((rdR l (rd_T39 r i).f0).1 - (rd_T39 r i).f1) > tol
        · exact evp c1 (evp c2 (Ev.now _))
        · exact evp c1 (evn c2 (evp (Decidable.byContradiction (fun z => c ⟨c1, c2, z⟩)) (Ev.now _)))
      · exact evn c1 (Ev.now _)
theorem compare_both (r l : List S39) (t tol : Int) (hr : (r.length : Int) ≤ 9223372036854775807) (hl : (l.length : Int) ≤ 9223372036854775807) : ∃ z, Ev (fun k => rod_Compare.f k r l t tol) z ∧ Ev (fun k => spileref14_Compare.f k r l t tol) z ∧
    (OKR r → OKT l t → 0 ≤ tol → tol ≤ 1073741824 → (∀ j, 0 ≤ j → j < (r.length : Int) → Agree l tol (rd_T39 r j)) → z = (-1, 0)) := by
  obtain ⟨e, e1, e2, e3⟩ := rod_both r hr
  obtain ⟨g, g1, g2, g3⟩ := tab_both l t hl
  by_cases okr : OKR r
  case neg =>
    have he : ¬ e = 0 := fun q => okr (e3.1 q)
    exact ⟨(-1, 1), evb e1 (evn he (Ev.step (fun k => rod_Compare.j0.eq_2 ..) (evp rfl (Ev.now _)))), evb e2 (evn he (Ev.step (fun k => spileref14_Compare.j0.eq_2 ..) (evp rfl (Ev.now _)))), fun q => absurd q okr⟩
  obtain rfl := e3.2 okr
  by_cases okt : OKT l t
  case neg =>
    have hg : (g != 0) = true := by rw [bne_iff_ne]; exact fun q => okt (g3.1 q)
    exact ⟨(-1, 1), evb e1 (evp rfl (evb g1 (by rw [hg]; exact Ev.step (fun k => rod_Compare.j0.eq_2 ..) (evp rfl (Ev.now _))))), evb e2 (evp rfl (evb g2 (by rw [hg]; exact Ev.step (fun k => spileref14_Compare.j0.eq_2 ..) (evp rfl (Ev.now _))))), fun _ q => absurd q okt⟩
  obtain rfl := g3.2 okt
  have hf : ((0 : Int) != 0) = false := rfl
  have two : Ev (fun k => spileref14_Compare.j1 k r tol true l t) (-1, 2) := Ev.step (fun k => spileref14_Compare.j1.eq_2 ..) (evp rfl (Ev.now _))
  by_cases c1 : tol < 0
  · exact ⟨(-1, 2), evb e1 (evp rfl (evb g1 (by rw [hf]; exact Ev.step (fun k => rod_Compare.j0.eq_2 ..) (evn (by simp) (evp c1 (Ev.now _)))))), evb e2 (evp rfl (evb g2 (by rw [hf]; exact Ev.step (fun k => spileref14_Compare.j0.eq_2 ..) (evn (by simp) (evp c1 two))))), fun _ _ q => by omega⟩
  by_cases c2 : tol > 1073741824
  · exact ⟨(-1, 2), evb e1 (evp rfl (evb g1 (by rw [hf]; exact Ev.step (fun k => rod_Compare.j0.eq_2 ..) (evn (by simp) (evn c1 (evp c2 (Ev.now _))))))), evb e2 (evp rfl (evb g2 (by rw [hf]; exact Ev.step (fun k => spileref14_Compare.j0.eq_2 ..) (evn (by simp) (evn c1 (by rw [decide_eq_true c2]; exact two)))))), fun _ _ _ q => by omega⟩
  obtain ⟨z, z1, z2, z3⟩ := compare_loop okt tol r okr.2.1 0 (Int.le_refl _) (by omega)
  exact ⟨(z, 0), evb e1 (evp rfl (evb g1 (by rw [hf]; exact Ev.step (fun k => rod_Compare.j0.eq_2 ..) (evn (by simp) (evn c1 (evn c2 (evb z1 (Ev.now _)))))))),
    evb e2 (evp rfl (evb g2 (by rw [hf]; exact Ev.step (fun k => spileref14_Compare.j0.eq_2 ..) (evn (by simp) (evn c1 (by rw [decide_eq_false c2]; exact Ev.step (fun k => spileref14_Compare.j1.eq_2 ..) (evn (by simp) z2))))))), fun _ _ _ _ q => by rw [z3 q]⟩
theorem copy_eq {l : List S39} (t : Int) (h : (l.length : Int) ≤ 129) : spileref13_Copy.f l t = some (l, t) := by
  show (if ([] : List S39).length + l.length < 8796093022208 then some (([] : List S39) ++ l, t) else none) = _
  rw [if_pos (by simp; omega)]
  rfl
theorem clone_eq {l : List S39} (h : (l.length : Int) ≤ 129) : slices_Clone39.f l = some l := by
  unfold slices_Clone39.f
  rw [if_pos (by omega)]
theorem few_cases (r l : List S39) (t : Int) : ∃ b, spilelaw14_few.f r l t = some b ∧ (b = true → (r.length : Int) ≤ 129 ∧ (l.length : Int) ≤ 129) := by
  unfold spilelaw14_few.f spileref13_Few.f
  by_cases c : (r.length : Int) ≤ 129
  · exact ⟨decide ((l.length : Int) ≤ 129), by rw [if_pos c]; rfl, fun q => ⟨c, of_decide_eq_true q⟩⟩
  · exact ⟨false, by rw [if_neg c], fun q => by cases q⟩
theorem made_both {l : List S39} {t s : Int} (hl : (l.length : Int) ≤ 129) : ∃ r, Ev (fun k => rod_Make.f k l t s) r ∧ Ev (fun k => spileref14_Make.f k l t s) r ∧ (r.1.length : Int) ≤ 128 ∧
    (r.2 = 0 → OKT l t ∧ 1 ≤ s ∧ s ≤ 1073741824 ∧ OKR r.1 ∧ Chain l s 0 r.1 ∧ endV 0 r.1 + s > vN l) ∧ (r.2 ≠ 0 → r.1 = []) := by
  obtain ⟨r, r1, r2, r3, r4⟩ := make_both l t s (by omega)
  refine ⟨r, r1, r2, ?_, fun q => ?_, r4⟩
  · by_cases q : r.2 = 0
    · exact (r3 q).2.2.2.2.1
    · rw [r4 q]; simp
  · obtain ⟨a, b, c, d, e, f, g⟩ := r3 q
    exact ⟨a, b, c, made_rod a b d e f, f, g⟩
end Go.Proofs.YtkolhpacpbhceaaDoor.PL
namespace Go.Proofs.YtkolhpacpbhceaaDoor.Pure
open Go Go.RowKit Go.Proofs.YtkolhpacpbhceaaDoorW.PrintWords Go.Proofs.YtkolhpacpbhceaaDoorW.PrintLast Go.Proofs.YtkolhpacpbhceaaDoorW.PrintMore Go.Proofs.YtkolhpacpbhceaaDoor.Pr Go.Proofs.YtkolhpacpbhceaaDoor.Opn Go.Proofs.YtkolhpacpbhceaaDoor.X Go.Proofs.YtkolhpacpbhceaaDoor.PL
theorem found (out : List S39) (hl : (out.length : Int) ≤ 128) (x : S39) (hx : ∃ j, 0 ≤ j ∧ j < (out.length : Int) ∧ x.f0 = (rd_T39 out j).f0 ∧ x.f1 ≤ (rd_T39 out j).f1) : Ev (fun k => api_Mark_28_at_29.f k out x.f0 x.f1) true := by
  have key : ∀ i, 0 ≤ i → i ≤ (out.length : Int) → (∃ j, i ≤ j ∧ j < (out.length : Int) ∧ x.f0 = (rd_T39 out j).f0 ∧ x.f1 ≤ (rd_T39 out j).f1) → ∃ z : Int, 0 ≤ z ∧ Ev (fun k => api_Mark_38_at_29.l0 k out (out.length : Int) i x.f0 x.f1) z := by
    refine count_up 0 (out.length : Int) _ ?_ ?_
    · rintro ⟨j, a, b, _⟩; omega
    · rintro i i0 i1 ih ⟨j, a, b, e1, e2⟩
      have hs := w64_succ i0 i1 (by omega)
      by_cases c : x.f0 = (rd_T39 out i).f0 ∧ x.f1 ≤ (rd_T39 out i).f1
      · refine ⟨i, i0, Ev.step (fun k => api_Mark_38_at_29.l0.eq_2 ..) (evp i1 (evp i0 (evp i1 (evb (a := true) (evc (fun _ => rfl) ?_) (evp rfl (Ev.now _))))))⟩
        unfold spilelaw14_RodCoarser_1.f
        rw [if_pos c.1, decide_eq_true c.2]
      · obtain ⟨z, z0, z1⟩ := ih ⟨j, by
          rcases Int.lt_or_le i j with q | q
          · omega
          · rw [show j = i from by omega] at e1 e2; exact absurd ⟨e1, e2⟩ c, b, e1, e2⟩
        refine ⟨z, z0, Ev.step (fun k => api_Mark_38_at_29.l0.eq_2 ..) (evp i1 (evp i0 (evp i1 (evb (a := false) (evc (fun _ => rfl) ?_) (evn (by simp) (by rw [hs]; exact z1))))))⟩
        unfold spilelaw14_RodCoarser_1.f
        by_cases c1 : x.f0 = (rd_T39 out i).f0
        · rw [if_pos c1, decide_eq_false (fun q => c ⟨c1, q⟩)]
        · rw [if_neg c1]
  obtain ⟨j, a, b, e⟩ := hx
  obtain ⟨z, z0, z1⟩ := key 0 (Int.le_refl _) (by omega) ⟨j, a, b, e⟩
  exact evb z1 (evr (decide_eq_true z0))
/-- A multiple of the step that the table reaches is first reached at a mark. -/
theorem reached {l : List S39} {t : Int} (h : OKT l t) {s : Int} (s1 : 1 ≤ s) : ∀ (out : List S39) (q : Int), 0 ≤ q → Chain l s (q * s) out → ∀ (u x : Int), q < u → u * s < endV (q * s) out + s → Least l (u * s) x → ∃ m, m ∈ out ∧ m.f0 = x ∧ m.f1 = atL l m.f0 / s * s
  | [], q, q0, hc, u, x, hu, he, L => by
    have := Int.mul_le_mul_of_nonneg_right (show q + 1 ≤ u by omega) (show 0 ≤ s by omega)
    rw [Int.add_mul, Int.one_mul] at this
    simp only [endV] at he
    omega
  | m :: r, q, q0, hc, u, x, hu, he, L => by
    obtain ⟨⟨Lm, e, c⟩, hr⟩ := hc
    have bd := (facts h).bounds m.f0 Lm.1 Lm.2.1
    rw [e] at hr
    by_cases hle : u ≤ atL l m.f0 / s
    · refine ⟨m, by simp, ?_, e⟩
      have a1 : (q + 1) * s ≤ u * s := Int.mul_le_mul_of_nonneg_right (by omega) (by omega)
      rw [Int.add_mul, Int.one_mul] at a1
      have le1 := least_mono Lm L a1
      have fl := (floor_le (a := atL l m.f0) (s := s) (by omega)).1
      have a2 := Int.mul_le_mul_of_nonneg_right hle (show 0 ≤ s by omega)
      rcases Int.lt_or_le m.f0 x with z | z
      · have := L.2.2.2 m.f0 Lm.1 z; omega
      · omega
    · have he2 : u * s < endV (atL l m.f0 / s * s) r + s := by rw [← e]; exact he
      obtain ⟨n, n1, n2, n3⟩ := reached h s1 r (atL l m.f0 / s) (Int.ediv_nonneg bd.1 (by omega)) hr u x (by omega) he2 L
      exact ⟨n, by simp [n1], n2, n3⟩
theorem coarse_loop {l : List S39} {t s : Int} (h : OKT l t) (s1 : 1 ≤ s) {out : List S39} (hl : (out.length : Int) ≤ 128) (hc : Chain l s 0 out) (he : endV 0 out + s > vN l) {c : Int} (c1 : 1 ≤ c) {big : List S39} (bl : (big.length : Int) ≤ 128) (bc : Chain l (s * c) 0 big) : ∀ i, 0 ≤ i → i ≤ (big.length : Int) →
    Ev (fun k => spilelaw14_RodCoarser.l0 k out big (big.length : Int) i) true := by
  have f := facts h
  have sc : 1 ≤ s * c := by
    have := Int.mul_le_mul_of_nonneg_left c1 (show 0 ≤ s by omega)
    rw [Int.mul_one] at this; omega
  have marks := chain_marks h sc big 0 (Int.le_refl _) (by rw [Int.zero_mul]; exact bc)
  refine count_up 0 (big.length : Int) _ (Ev.step (fun k => spilelaw14_RodCoarser.l0.eq_2 ..) (evn (by omega) (Ev.now _))) ?_
  intro i i0 i1 ih
  have hs := w64_succ i0 i1 (by omega)
  obtain ⟨m1, m2, ⟨u, m3⟩, m4, m5, m6, m7⟩ := marks _ (rd39_mem i0 i1)
  have bm := f.bounds _ m1 m2
  have L : Least l (u * c * s) (rd_T39 big i).f0 := by
    have e : u * c * s = (rd_T39 big i).f1 := by rw [m3, Int.mul_assoc, Int.mul_comm c s]
    rw [e]
    exact ⟨m1, m2, m5, m7⟩
  have up : 0 < u * c := by
    have h1 : 1 ≤ (rd_T39 big i).f1 := by rw [Int.zero_mul] at m4; omega
    rw [m3] at h1
    have hu : 0 < u := by
      rcases Int.lt_or_le 0 u with z | z
      · exact z
      · have := Int.mul_le_mul_of_nonneg_right z (show 0 ≤ s * c by omega)
        rw [Int.zero_mul] at this; omega
    exact Int.mul_pos hu (by omega)
  obtain ⟨m, n1, n2, n3⟩ := reached h s1 out 0 (Int.le_refl _) (by rw [Int.zero_mul]; exact hc) (u * c) _ up (by
    rw [Int.zero_mul]
    have e : u * c * s = (rd_T39 big i).f1 := by rw [m3, Int.mul_assoc, Int.mul_comm c s]
    omega) L
  obtain ⟨j, j0, j1, rfl⟩ := rd39_of_mem n1
  refine Ev.step (fun k => spilelaw14_RodCoarser.l0.eq_2 ..) (evp i1 (evp i0 (evp i1 (evb (found out hl (rd_T39 big i) ⟨j, j0, j1, n2.symm, ?_⟩) (evp rfl (by rw [hs]; exact ih))))))
  have e : u * c * s = (rd_T39 big i).f1 := by rw [m3, Int.mul_assoc, Int.mul_comm c s]
  rw [n3, n2, ← e]
  exact floor_ge (by omega) (by rw [e]; exact m5)
theorem RodCoarser : rodCoarserPure := by
  intro l t s y hl ht hs hy
  refine Ev.rounds ?_
  obtain ⟨b, hb, hb2⟩ := few_cases [] l t
  have haw : Ev (fun _ : Nat => spilelaw14_awake.f) true := Ev.now _
  refine evb haw (evp rfl (evb (evc (fun _ => rfl) hb) ?_))
  have yes : Ev (fun k => spilelaw14_RodCoarser.j0 k s y true l t) true := Ev.step (fun k => spilelaw14_RodCoarser.j0.eq_2 ..) (evp rfl (Ev.now _))
  cases b with
  | false => exact evn (by simp) yes
  | true =>
    have hn := (hb2 rfl).2
    have copy : Ev (fun _ : Nat => spileref13_Copy.f l t) (l, t) := evc (fun _ => rfl) (copy_eq t hn)
    refine evp rfl ?_
    by_cases c0 : s > 1073741824
    · rw [decide_eq_true c0]; exact yes
    rw [decide_eq_false c0]
    obtain ⟨r, r1, _, r3, r4, r5⟩ := made_both (l := l) (t := t) (s := s) hn
    refine Ev.step (fun k => spilelaw14_RodCoarser.j0.eq_2 ..) (evn (by simp) (evb copy (evb r1 ?_)))
    by_cases c : r.2 = 0
    case neg => exact evn c (evr (by rw [r5 c]; rfl))
    obtain ⟨okt, s1, s2, okr, hc, he⟩ := r4 c
    have f := facts okt
    have bV := f.vNle
    have marks := chain_marks okt s1 r.1 0 (Int.le_refl _) (by rw [Int.zero_mul]; exact hc)
    obtain ⟨z, z1, _, z3⟩ := compare_both r.1 l t s (by omega) (by omega)
    have hz : z = (-1, 0) := z3 okr okt (by omega) s2 (fun j j0 j1 => by
      obtain ⟨m1, m2, _, m4, m5, m6, _⟩ := marks _ (rd39_mem j0 j1)
      have bm := f.bounds _ m1 m2
      unfold Agree rdR
      rw [if_neg (by omega), if_neg (by omega)]
      rw [Int.zero_mul] at m4
      refine ⟨rfl, ?_, ?_⟩
      · show ¬ wrap64 (atL l _ - _) > s
        rw [w64 (by omega) (by omega)]; omega
      · show ¬ wrap64 (_ - atL l _) > s
        rw [w64 (by omega) (by omega)]; omega)
    rw [hz] at z1
    refine evp c (evb (evc (fun _ => rfl) (clone_eq (by omega))) (evb copy (evb z1 (evp rfl ?_))))
    rw [show ((-1 : Int) != -1) = false from rfl]
    have hy2 : 0 ≤ y ∧ y ≤ 255 := by
      have h2 := hy
      simp [Lit.wf, IntKind.min, IntKind.max, IntKind.signed, IntKind.bits] at h2
      omega
    have w1 : wrap64 y = y := w64 (by omega) (by omega)
    have w2 : wrap64 (1 + Int.tmod y 8) = 1 + y % 8 := by rw [Int.tmod_eq_emod_of_nonneg (by omega), w64 (by omega) (by omega)]
    have mb := mulb (x := s) (y := 1 + y % 8) (X := 1073741824) (Y := 8) (by omega) s2 (by omega) (by omega)
    have w3 : wrap64 (s * (1 + y % 8)) = s * (1 + y % 8) := w64 (by omega) (by omega)
    refine Ev.step (fun k => spilelaw14_RodCoarser.j1.eq_2 ..) (evn (by simp) (evb copy ?_))
    rw [w1, w2, w3]
    obtain ⟨g, g1, _, g3, g4, g5⟩ := made_both (l := l) (t := t) (s := s * (1 + y % 8)) hn
    refine evb g1 ?_
    by_cases cg : g.2 = 0
    case neg => exact evn cg (evr (by rw [g5 cg]; rfl))
    obtain ⟨_, _, _, _, bc, _⟩ := g4 cg
    exact evp cg (coarse_loop okt s1 r3 hc he (c := 1 + y % 8) (by omega) g3 bc 0 (Int.le_refl _) (by omega))
end Go.Proofs.YtkolhpacpbhceaaDoor.Pure
namespace Go.Proofs.YtkolhpacpbhceaaDoor.X
open Go
variable {H : Type} {enc : TypeId × Value → H}
theorem wrap_shaped {a : Assume} {C : Checked} {os : Os} {f : FuncId} {fn : Func} {s : ChangeSpec} {conds : List PathCond} {apart fresh handsOn again : Bool} {X : World → Array Value → Prop}
    (hX : ∀ (w w' : World) (args : Array Value), w.heap = w'.heap → X w args → X w' args)
    (own : ownKnob C.prog.godebug = none) (started : os.Started) (noInit : C.prog.inits.idxOf? f = none) (hfn : C.prog.funcs[f]? = some fn)
    (witness : ∃ (w : World) (tape : Tape) (i : Input), w.os = os ∧ (w.forCall tape i).Shaped C.prog ∧ i.vars = [] ∧ Input.okWide C.prog (w.forCall tape i) .any w.heap.size f i ∧
      ((s.pre enc C.prog fn conds apart (w.forCall tape i).memory i.args ∧ X (w.forCall tape i).memory i.args) ∧ sizedMet enc C.prog fn (OpenSpec.ofChange s) apart (w.forCall tape i).memory i.args) ∧ a.holds C.prog (lone (Frame.enter C.prog f i.args .normal) [] (w.forCall tape i)))
    (walk : ∀ (W : World) (base : Nat) (args : Array Value) (ds gs : List (DataW H)) (before : List MemPlace),
      (∀ (j : Nat) t v, fn.params[j]? = some t → args[j]? = some v → Value.okWide C.prog W .any base t v) →
      DataW.Whole enc C.prog fn.params.toList s.vars apart W args.toList ds gs before → X W args → W.ShapedOpen C.prog →
      Calls C.prog f args W fun e W' => ∃ v, e = .returned v ∧ s.post enc C.prog fn apart fresh handsOn again W args v W') :
    ReturnsInHanded a C os f .any (fun w args => (s.pre enc C.prog fn conds apart w args ∧ X w args) ∧ sizedMet enc C.prog fn (OpenSpec.ofChange s) apart w args) (s.post enc C.prog fn apart fresh handsOn again) := by
  refine returnsInHanded_of_calls own started noInit witness ?_
  intro w tape i _ hsh _ hok hpre _
  obtain ⟨_, _, _, fn', hfn', _, _, _, _, hval⟩ := hok
  obtain rfl : fn' = fn := Option.some.inj (hfn'.symm.trans hfn)
  obtain ⟨⟨⟨ds, gs, before, hw, _⟩, hx⟩, _⟩ := hpre
  refine (walk (w.forCall tape i) w.heap.size i.args ds gs before hval (DataW.Whole.of_heap (w' := w.forCall tape i) (by rfl) hw) (hX _ _ _ (by rfl) hx) hsh).mono fun e W' ⟨v, he, hp⟩ => ?_
  subst he
  exact ChangeSpec.post_blind hp
end Go.Proofs.YtkolhpacpbhceaaDoor.X
namespace Go.Proofs.YtkolhpacpbhceaaDoor.rodCoarser
open Go Go.ChangeShapes Go.WideShapes Go.ChangeAt Go.RowKit
open Go.ChangeMaps (open_string shut_string)
open Go.Proofs.YtkolhpacpbhceaaDoorW.PrintWords Go.Proofs.YtkolhpacpbhceaaDoor.O Go.Proofs.YtkolhpacpbhceaaDoor.Opn Go.Proofs.YtkolhpacpbhceaaDoor.Pr Go.Proofs.YtkolhpacpbhceaaDoor.X
theorem own : ownKnob Tryd.prog.godebug = none := by kernel_rfl
theorem laidOut : laidOutB Tryd.prog = true := by kernel_rfl
abbrev laidL : List (String × DataW Unit) := [("math/bits.deBruijn32tab", Rows.laid_math_bits_deBruijn32tab), ("math/bits.deBruijn64tab", Rows.laid_math_bits_deBruijn64tab), ("internal/strconv.uint64pow10", Rows.laid_internal_strconv_uint64pow10)]
set_option maxRecDepth 100000 in
theorem lifted (os : Os) (started : os.Started) (H : Type) (enc : TypeId × Value → H) :
    ReturnsInHanded {} Tryd.checked os 9 .any (fun w args => (Rows.rodCoarserSpec.pre enc Tryd.prog Tryd.f9 [] false w args ∧ laidMetH Tryd.prog laidL w) ∧ sizedMet enc Tryd.prog Tryd.f9 (OpenSpec.ofChange Rows.rodCoarserSpec) false w args)
      (Rows.rodCoarserSpec.post enc Tryd.prog Tryd.f9 false true false false) := by
  refine wrap_shaped (C := Tryd.checked) (X := (fun w _ => laidMetH Tryd.prog laidL w)) (fun _ _ _ hh h => h.of_heap hh) own started (by kernel_rfl) Tryd.func9
    (ChangeSpec.witness_shaped (enc := enc) (C := Tryd.checked) (os := os) (X := (fun w _ => laidMetH Tryd.prog laidL w)) false (World.laidAll Tryd.prog os laidL) #[.agg #[.slice none 0 0, .int .i64 0], .int .i64 0, .int .u8 0] 8 (World.laidAll_os _ _ _) (World.shaped_of_ZipB (by kernel_rfl) (by kernel_rfl)) (by kernel_rfl) (by kernel_rfl) (by kernel_rfl) (by rw [MakeChecks.laidMetH_plain _ _ _ (by kernel_rfl)]; exact laidMet_laidAll _ (by kernel_rfl) (by kernel_rfl))) ?_
  intro W base args ds gs before hval0 hW hL hsh
  have hval : ∀ (j : Nat) t v, Tryd.f9.params[j]? = some t → args[j]? = some v → Value.okWide Tryd.prog W .any base t v := hval0
  have hW' := hW
  obtain ⟨p, q, hA0, hV, rfl, hfz, hnd⟩ := hW
  have hA : DataW.TrodAll enc Tryd.prog W 0 (fun _ => true) true Tryd.f9.params.toList args.toList ds p := hA0
  rw [Tryd.params9] at hA hval
  obtain ⟨v0, vs0, d0, ds0, p0, q0, hargs, rfl, rfl, h0, r0⟩ := trodAll_cons hA
  obtain ⟨v1, vs1, d1, ds1, p1, q1, rfl, rfl, rfl, h1, r1⟩ := trodAll_cons r0
  obtain ⟨v2, vs2, d2, ds2, p2, q2, rfl, rfl, rfl, h2, r2⟩ := trodAll_cons r1
  obtain ⟨rfl, rfl, rfl⟩ := trodAll_nil r2
  obtain rfl : args = #[v0, v1, v2] := by cases args; simp_all
  obtain ⟨rfl, rfl⟩ := trodVars_none hV
  obtain ⟨cs0, rfl, _⟩ := okWide_struct Tryd.underlying24 (hval 0 24 v0 rfl rfl)
  have k0 := h0
  have lt0 : ∀ x ∈ p0, x.block < W.heap.size := by obtain ⟨m, hm⟩ := k0; exact DataW.trod_lt m _ _ _ hm
  obtain ⟨x0, K0, ok0⟩ : ∃ x, k24.K W x cs0.toList ∧ ok24 x := by
    obtain ⟨fuel, hf⟩ := h0
    exact opens24.2 _ _ _ _ _ _ _ _ _ hf
  obtain ⟨A0_0, c0_0, e0, g0_0, hr0_0⟩ := k24_open K0
  obtain rfl : cs0 = #[.slice A0_0 (x0.f0).length c0_0, .int .i64 (x0.f1)] := by cases cs0; simpa using e0
  obtain ⟨a1, rfl, rfl, rfl, w1⟩ := open_int Tryd.underlying3 (hval 1 3 v1 rfl rfl) h1
  obtain ⟨a2, rfl, rfl, rfl, w2⟩ := open_int Tryd.underlying5 (hval 2 5 v2 rfl rfl) h2
  clear hA0 hval0
  obtain ⟨k, hp⟩ := Pure.RodCoarser (x0.f0) (x0.f1) a1 a2 ok0.1 ok0.2 w1 w2
  have hG : GI W := GI.of_laid laidL (by simp [laidL]) hL hsh
  refine (spilelaw14_RodCoarser.calls k _ _ (x0.f0) (x0.f1) a1 a2 true W hr0_0 g0_0 hG rfl hp).mono fun e W' ⟨he, bel⟩ => ?_
  subst he
  exact ⟨_, rfl, _, _, _, [], _, [], hW', trodAll_mk1 (shut_bool Tryd.underlying4 _), (trodAll_cons_mk (Below.trod laidOut (by kernel_rfl) (of_decide_eq_true (by kernel_rfl)) k0 bel lt0) (trodAll_cons_mk (shut_int Tryd.underlying3 w1) (trodAll_cons_mk (shut_int Tryd.underlying5 w2) trodAll_mk0))), rfl, bel.frame _, fun h => by cases h⟩
theorem holds : Rows.RodCoarserSaid :=
  OpenClaim.holds_of_wide 9 Tryd.f9 rfl rfl rfl rfl rfl rfl rfl ⟨rfl, rfl, rfl, rfl, rfl⟩ rfl rfl rfl rfl rfl (by kernel_rfl) Tryd.func9 (by kernel_rfl)
    (of_decide_eq_true (by kernel_rfl)) (by unfold Func.isWrapper; first | (rw [if_pos (by decide +kernel)]; kernel_rfl) | (rw [if_neg (by decide +kernel)]; exact ⟨rfl, rfl⟩))
    (fun os started H enc _ => lifted os started H enc)
theorem card : Rows.RodCoarserCardSaid :=
  Claim7.holds_tied_plain_at .later [] [.data, .data, .data] true (true, "ffac5e0cc8868b2e00f9950da871680f8663d7526cb1afae6a9e6c162e8ee000") false
    holds (fun _ h => by cases h) (by kernel_rfl) (fun _ h => by cases h) rodCoarser_row_tie rfl ⟨rfl, rfl⟩ (by kernel_rfl) rfl
    (fun f fn hf hfn => by
      obtain rfl : f = 9 := Option.some.inj ((show Tryd.prog.funcNamed "spile/spilelaw14.RodCoarser" = some 9 by kernel_rfl).symm.trans hf) |>.symm
      obtain rfl : fn = Tryd.f9 := (Option.some.inj (Tryd.func9.symm.trans hfn)).symm
      exact ⟨by kernel_rfl, fun j t ht => by
        rw [Tryd.params9] at ht
        have hm : t ∈ [24, 3, 5] := by simpa using Array.mem_of_getElem? ht
        have hall : ([24, 3, 5].all fun u => !Tryd.prog.wantsStandIn u) = true := by kernel_rfl
        exact (show Tryd.prog.wantsStandIn t = false by simpa using List.all_eq_true.1 hall t hm)⟩)
    (by kernel_rfl)
end Go.Proofs.YtkolhpacpbhceaaDoor.rodCoarser
namespace Go.Proofs.YtkolhpacpbhceaaDoor
/-- The card, under a short name, for the claim. -/
theorem rodCoarser_holds : Rows.RodCoarserCardSaid := rodCoarser.card
#print axioms rodCoarser_holds
end Go.Proofs.YtkolhpacpbhceaaDoor
