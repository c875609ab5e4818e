/-
The law CaskFinds returns true for every input that can be read as data, and leaves its arguments as they were: the row, and the card that ties the listed variables to the program's text.
No condition of its own beyond those that the given row prints.
-/
import Derived.HandedShaped
import Derived.Handed
import Derived.Test.YtnhmlneebnkjcaaDoorCards
import Derived.Test.YtnhmlneebnkjcaaDoorTie
import Derived.ProofKit
import Derived.OpenShut
import Derived.ShutString
import Derived.ChangeOld
import Derived.SizedLaws
import Derived.LaidMore
import Derived.Lay
import Derived.MakeChecks
import Derived.SevenTiedAt
import Derived.LaidSub
import Derived.LaidOnce
import Derived.Stop.Joined
import Derived.Stop.LaidErr
import Derived.Test.YtnhmlneebnkjcaaDoorCaskFindsE
set_option linter.unusedVariables false
set_option linter.unusedSimpArgs false
namespace Go.Proofs.YtnhmlneebnkjcaaDoor.PL
open Go Go.RowKit Go.Proofs.YtnhmlneebnkjcaaDoorW.PrintWords Go.Proofs.YtnhmlneebnkjcaaDoorW.PrintLast Go.Proofs.YtnhmlneebnkjcaaDoorW.PrintMore
theorem evp {α : Type} {c : Prop} [Decidable c] {g h : Nat → Option α} {r : α} (hc : c) (k : Ev g r) : Ev (fun n => if c then g n else h n) r :=
  Ev.congr (fun n => if_pos hc) k
theorem evn {α : Type} {c : Prop} [Decidable c] {g h : Nat → Option α} {r : α} (hc : ¬ c) (k : Ev h r) : Ev (fun n => if c then g n else h n) r :=
  Ev.congr (fun n => if_neg hc) k
theorem evb {α β : Type} {g : Nat → Option α} {f : Nat → α → Option β} {a : α} {r : β} (h : Ev g a) (k : Ev (fun n => f n a) r) : Ev (fun n => (g n).bind (f n)) r := Ev.bind h k
theorem evr {α : Type} {a r : α} (h : a = r) : Ev (fun _ => some a) r := by subst h; exact Ev.now _
theorem evc {α : Type} {g : Nat → Option α} {r : α} {o : Option α} (hg : ∀ n, g n = o) (h : o = some r) : Ev g r := by
  subst h
  exact Ev.congr hg (Ev.now _)
/-- A loop that counts upwards to n. -/
theorem count_up (a n : Int) (P : Int → Prop) (hend : P n) (hround : ∀ i, a ≤ i → i < n → P (i + 1) → P i) : ∀ i, a ≤ i → i ≤ n → P i := by
  intro i h0 h1
  obtain ⟨d, hd⟩ : ∃ d : Nat, n - i = d := ⟨(n - i).toNat, by omega⟩
  induction d generalizing i with
  | zero =>
    obtain rfl : i = n := by omega
    exact hend
  | succ d ih => exact hround i h0 (by omega) (ih (i + 1) (by omega) (by omega) (by omega))
theorem w64 {x : Int} (h0 : -9223372036854775808 ≤ x) (h1 : x ≤ 9223372036854775807) : wrap64 x = x := by
  unfold wrap64
  omega
theorem w64_succ {i n : Int} (h0 : 0 ≤ i) (h : i < n) (hn : n ≤ 9223372036854775807) : wrap64 (i + 1) = i + 1 := w64 (by omega) (by omega)
theorem len_le {α : Type} {l : List α} (h : l.length ≤ maxLen) : (l.length : Int) ≤ 9223372036854775807 := by
  have : l.length ≤ 9223372036854775807 := by simpa [maxLen] using h
  omega
/-- A test that comes to true where P holds, and else to false. -/
def EvB (g : Nat → Option Bool) (P : Prop) : Prop := (P → Ev g true) ∧ (¬ P → Ev g false)
theorem EvB.iff {g : Nat → Option Bool} {P Q : Prop} (h : EvB g P) (e : P ↔ Q) : EvB g Q := ⟨fun q => h.1 (e.2 q), fun q => h.2 (fun p => q (e.1 p))⟩
theorem EvB.get {g : Nat → Option Bool} {P : Prop} (h : EvB g P) : ∃ b, Ev g b ∧ (b = true ↔ P) := by
  by_cases hp : P
  · exact ⟨true, h.1 hp, by simp [hp]⟩
  · exact ⟨false, h.2 hp, by simp [hp]⟩
theorem EvB.map {g : Nat → Option Bool} {f : Nat → Bool → Option Bool} {P Q : Prop} (h : EvB g P) (ht : P → EvB (fun n => f n true) Q) (hf : ¬ P → EvB (fun n => f n false) Q) : EvB (fun n => (g n).bind (f n)) Q := by
  by_cases hp : P
  · exact ⟨fun q => Ev.bind (h.1 hp) ((ht hp).1 q), fun q => Ev.bind (h.1 hp) ((ht hp).2 q)⟩
  · exact ⟨fun q => Ev.bind (h.2 hp) ((hf hp).1 q), fun q => Ev.bind (h.2 hp) ((hf hp).2 q)⟩
theorem evB_all (a n : Int) (Q : Int → Prop) (L : Int → Nat → Option Bool) (hend : Ev (L n) true) (hno : ∀ i, a ≤ i → i < n → ¬ Q i → Ev (L i) false)
    (hyes : ∀ i, a ≤ i → i < n → Q i → ∀ b, Ev (L (i + 1)) b → Ev (L i) b) : ∀ i, a ≤ i → i ≤ n → EvB (L i) (∀ j, i ≤ j → j < n → Q j) := by
  refine count_up a n _ ⟨fun _ => hend, fun h => absurd (fun j h1 h2 => absurd h2 (by omega)) h⟩ ?_
  intro i h0 h1 ih
  by_cases hq : Q i
  · refine ⟨fun h => hyes i h0 h1 hq _ (ih.1 fun j hj hn => h j (by omega) hn), fun h => hyes i h0 h1 hq _ (ih.2 fun h2 => h fun j hj hn => ?_)⟩
    by_cases e : j = i
    · subst e; exact hq
    · exact h2 j (by omega) hn
  · exact ⟨fun h => absurd (h i (by omega) h1) hq, fun _ => hno i h0 h1 hq⟩
theorem index_ev (n : Int) (Q : Int → Prop) (L : Int → Nat → Option Int) (hend : Ev (L n) (-1)) (hyes : ∀ i, 0 ≤ i → i < n → Q i → Ev (L i) i)
    (hno : ∀ i, 0 ≤ i → i < n → ¬ Q i → ∀ r, Ev (L (i + 1)) r → Ev (L i) r) : ∀ i, 0 ≤ i → i ≤ n →
    ∃ r, Ev (L i) r ∧ ((0 ≤ r ∧ i ≤ r ∧ r < n ∧ Q r ∧ ∀ j, i ≤ j → j < r → ¬ Q j) ∨ (r = -1 ∧ ∀ j, i ≤ j → j < n → ¬ Q j)) := by
  refine count_up 0 n _ ⟨-1, hend, .inr ⟨rfl, fun j h1 h2 => absurd h2 (by omega)⟩⟩ ?_
  intro i h0 h1 ih
  by_cases hq : Q i
  · exact ⟨i, hyes i h0 h1 hq, .inl ⟨h0, by omega, h1, hq, fun j h2 h3 => absurd h3 (by omega)⟩⟩
  · obtain ⟨r, hr, h⟩ := ih
    refine ⟨r, hno i h0 h1 hq _ hr, ?_⟩
    have ext : ∀ b, (∀ j, i + 1 ≤ j → j < b → ¬ Q j) → ∀ j, i ≤ j → j < b → ¬ Q j := fun b h2 j hj hb => by
      by_cases e : j = i
      · subst e; exact hq
      · exact h2 j (by omega) hb
    rcases h with ⟨a, b, c, d, e⟩ | ⟨a, b⟩
    · exact .inl ⟨a, by omega, c, d, ext r e⟩
    · exact .inr ⟨a, ext n b⟩
end Go.Proofs.YtnhmlneebnkjcaaDoor.PL
namespace Go.Proofs.YtnhmlneebnkjcaaDoor.PL
open Go Go.RowKit Go.Proofs.YtnhmlneebnkjcaaDoorW.PrintWords Go.Proofs.YtnhmlneebnkjcaaDoorW.PrintLast Go.Proofs.YtnhmlneebnkjcaaDoorW.PrintMore Go.Proofs.YtnhmlneebnkjcaaDoor.Pr Go.Proofs.YtnhmlneebnkjcaaDoor.TX Go.Proofs.YtnhmlneebnkjcaaDoor.X
def ba (l : List UInt8) : ByteArray := ⟨l.toArray⟩
theorem ba_data (s : ByteArray) : ba s.data.toList = s := by obtain ⟨⟨l⟩⟩ := s; rfl
end Go.Proofs.YtnhmlneebnkjcaaDoor.PL
namespace Go.Proofs.YtnhmlneebnkjcaaDoor.PL
open Go Go.RowKit Go.Proofs.YtnhmlneebnkjcaaDoorW.PrintWords Go.Proofs.YtnhmlneebnkjcaaDoorW.PrintLast Go.Proofs.YtnhmlneebnkjcaaDoorW.PrintMore Go.Proofs.YtnhmlneebnkjcaaDoor.Pr Go.Proofs.YtnhmlneebnkjcaaDoor.Opn Go.Proofs.YtnhmlneebnkjcaaDoor.X
def okB (b : Int) : Prop := (97 ≤ b ∧ b ≤ 122) ∨ (65 ≤ b ∧ b ≤ 90) ∨ (48 ≤ b ∧ b ≤ 57) ∨ b = 45 ∨ b = 46
instance (b : Int) : Decidable (okB b) := by unfold okB; infer_instance
def NameP (s : ByteArray) : Prop := 1 ≤ s.size ∧ s.size ≤ 64 ∧ ∀ i, 0 ≤ i → i < (s.size : Int) → okB (bt s i)
theorem named_step (k : Nat) (s : ByteArray) {i : Int} (h0 : 0 ≤ i) (h1 : i < (s.size : Int)) : cask_named.l0 (k + 1) s (s.size : Int) i = if okB (bt s i) then cask_named.l0 k s (s.size : Int) (wrap64 (i + 1)) else some false := by
  rw [cask_named.l0.eq_2, if_pos h1, if_pos h0, if_pos h1]
  by_cases c : okB (bt s i)
  · rw [if_pos c]
    unfold okB at c
    (repeat' split) <;> first | rfl | (exfalso; omega)
  · rw [if_neg c]
    unfold okB at c
    (repeat' split) <;> first | rfl | (exfalso; omega)
theorem isname_step (k : Nat) (s : ByteArray) {i : Int} (h0 : 0 ≤ i) (h1 : i < (s.size : Int)) : spileref09_IsName.l0 (k + 1) s i = if okB (bt s i) then spileref09_IsName.l0 k s (wrap64 (i + 1)) else some false := by
  rw [spileref09_IsName.l0.eq_2, if_pos h1, if_pos h0]
  by_cases c : okB (bt s i)
  · rw [if_pos c]
    unfold okB at c
    (repeat' split) <;> first | rfl | (exfalso; omega)
  · rw [if_neg c]
    unfold okB at c
    (repeat' split) <;> first | rfl | (exfalso; omega)
theorem name_both (s : ByteArray) (hs : (s.size : Int) ≤ 9223372036854775807) : ∃ b, Ev (fun k => cask_named.f k s) b ∧ Ev (fun k => spileref09_IsName.f k s) b ∧ (b = true ↔ NameP s) := by
  have L1 : ∀ i, 0 ≤ i → i ≤ (s.size : Int) → EvB (fun k => cask_named.l0 k s (s.size : Int) i) (∀ j, i ≤ j → j < (s.size : Int) → okB (bt s j)) := by
    refine evB_all 0 (s.size : Int) (fun j => okB (bt s j)) (fun i k => cask_named.l0 k s (s.size : Int) i) ?_ ?_ ?_
    · exact Ev.step (fun k => cask_named.l0.eq_2 ..) (evn (by omega) (Ev.now _))
    · intro i h0 h1 hq
      exact Ev.step (fun k => named_step k s h0 h1) (evn hq (Ev.now _))
    · intro i h0 h1 hq b hb
      rw [← w64_succ h0 h1 hs] at hb
      exact Ev.step (fun k => named_step k s h0 h1) (evp hq hb)
  have L2 : ∀ i, 0 ≤ i → i ≤ (s.size : Int) → ∃ b, Ev (fun k => spileref09_IsName.l0 k s i) b ∧ (b = true ↔ (1 ≤ s.size ∧ s.size ≤ 64 ∧ ∀ j, i ≤ j → j < (s.size : Int) → okB (bt s j))) := by
    refine count_up 0 (s.size : Int) _ ?_ ?_
    · by_cases c : (s.size : Int) ≥ 1
      · exact ⟨_, Ev.step (fun k => spileref09_IsName.l0.eq_2 ..) (evn (by omega) (evp c (Ev.now _))), by rw [decide_eq_true_eq]; exact ⟨fun h => ⟨by omega, by omega, fun j _ _ => by omega⟩, fun h => by omega⟩⟩
      · exact ⟨_, Ev.step (fun k => spileref09_IsName.l0.eq_2 ..) (evn (by omega) (evn c (Ev.now _))), by simp; omega⟩
    · intro i h0 h1 ih
      by_cases hq : okB (bt s i)
      · obtain ⟨b, hb, hi⟩ := ih
        rw [← w64_succ h0 h1 hs] at hb
        refine ⟨b, Ev.step (fun k => isname_step k s h0 h1) (evp hq hb), hi.trans ⟨fun h => ⟨h.1, h.2.1, fun j h2 h3 => ?_⟩, fun h => ⟨h.1, h.2.1, fun j h2 h3 => h.2.2 j (by omega) h3⟩⟩⟩
        by_cases e : j = i
        · rw [e]; exact hq
        · exact h.2.2 j (by omega) h3
      · exact ⟨false, Ev.step (fun k => isname_step k s h0 h1) (evn hq (Ev.now _)), by simp only [Bool.false_eq_true, false_iff]; exact fun h => hq (h.2.2 i (Int.le_refl _) h1)⟩
  obtain ⟨b2, hb2, hi2⟩ := L2 0 (by omega) (by omega)
  have N2 : b2 = true ↔ NameP s := hi2
  by_cases c1 : (s.size : Int) < 1
  · have hb : b2 = false := by
      rw [Bool.eq_false_iff]
      intro q
      have := (N2.1 q).1
      omega
    subst hb
    exact ⟨false, evp c1 (Ev.step (fun k => cask_named.j0.eq_2 ..) (evp rfl (Ev.now _))), hb2, N2⟩
  by_cases c2 : (s.size : Int) > 64
  · have hb : b2 = false := by
      rw [Bool.eq_false_iff]
      intro q
      have := (N2.1 q).2.1
      omega
    subst hb
    exact ⟨false, evn c1 (Ev.step (fun k => cask_named.j0.eq_2 ..) (evp (decide_eq_true c2) (Ev.now _))), hb2, N2⟩
  obtain ⟨b, hb, hi⟩ := (L1 0 (by omega) (by omega)).get
  have e : b = b2 := by
    have : b = true ↔ b2 = true := hi.trans ⟨fun h => N2.2 ⟨by omega, by omega, h⟩, fun h => (N2.1 h).2.2⟩
    cases b <;> cases b2 <;> simp_all
  subst e
  exact ⟨b, evn c1 (Ev.step (fun k => cask_named.j0.eq_2 ..) (evn (by simp; omega) hb)), hb2, N2⟩
def LenP (x : Int) : Prop := 0 ≤ x ∧ x ≤ 100000
instance (x : Int) : Decidable (LenP x) := by unfold LenP; infer_instance
theorem measure_f (x : Int) : profile_measure.f x = some (decide (LenP x)) := by
  unfold profile_measure.f LenP
  by_cases c : x ≥ 0
  · rw [if_pos c]
    exact congrArg some (decide_eq_decide.2 ⟨fun h => ⟨c, h⟩, fun h => h.2⟩)
  · rw [if_neg c]
    exact congrArg some (decide_eq_false (fun h => c h.1)).symm
theorem isLength_f (x : Int) : spileref08_isLength.f x = some (decide (LenP x)) := by
  unfold spileref08_isLength.f LenP
  by_cases c : x ≥ 0
  · rw [if_pos c]
    exact congrArg some (decide_eq_decide.2 ⟨fun h => ⟨c, h⟩, fun h => h.2⟩)
  · rw [if_neg c]
    exact congrArg some (decide_eq_false (fun h => c h.1)).symm
def PtP (p : S46) : Prop := LenP p.f0 ∧ LenP p.f1
theorem check1_f (p : S46) : ∃ b, profile_Check_1.f p.f0 p.f1 = some b ∧ (b = true ↔ ¬ PtP p) := by
  unfold profile_Check_1.f PtP
  rw [measure_f, measure_f]
  by_cases c : LenP p.f0
  · refine ⟨_, by rw [Option.bind_some, if_pos (decide_eq_true c)]; rfl, ?_⟩
    by_cases d : LenP p.f1 <;> simp [c, d]
  · exact ⟨true, by rw [Option.bind_some, if_neg (by simp [c])], by simp [c]⟩
def AllP (l : List S46) : Prop := ∀ j, 0 ≤ j → j < (l.length : Int) → PtP (rd_T46 l j)
def NonZ (l : List S46) : Prop := ∀ j, 0 ≤ j → j < (l.length : Int) → (rd_T46 l j).f1 ≠ 0
theorem contains56 (l : List S46) (hl : (l.length : Int) ≤ 9223372036854775807) : ∃ b, Ev (fun k => api_Point_55_at_56.f k l) b ∧ (b = true ↔ ¬ AllP l) := by
  obtain ⟨r, hr, h⟩ := index_ev (l.length : Int) (fun i => ¬ PtP (rd_T46 l i)) (fun i k => api_Point_70_at_56.l0 k l (l.length : Int) i)
    (Ev.step (fun k => api_Point_70_at_56.l0.eq_2 ..) (evn (by omega) (Ev.now _)))
    (fun i h0 h1 hq => by
      obtain ⟨b, e, hb⟩ := check1_f (rd_T46 l i)
      exact Ev.step (fun k => api_Point_70_at_56.l0.eq_2 ..) (evp h1 (evp h0 (evp h1 (evb (evc (fun _ => rfl) e) (evp (hb.2 hq) (Ev.now _)))))))
    (fun i h0 h1 hq r hr => by
      obtain ⟨b, e, hb⟩ := check1_f (rd_T46 l i)
      rw [← w64_succ h0 h1 hl] at hr
      exact Ev.step (fun k => api_Point_70_at_56.l0.eq_2 ..) (evp h1 (evp h0 (evp h1 (evb (evc (fun _ => rfl) e) (evn (fun q => hq (hb.1 q)) hr)))))) 0 (by omega) (by omega)
  refine ⟨decide (r ≥ 0), evb hr (Ev.now _), ?_⟩
  rw [decide_eq_true_eq]
  rcases h with ⟨a, _, c, d, _⟩ | ⟨a, b⟩
  · exact ⟨fun _ q => d (q r a c), fun _ => a⟩
  · exact ⟨fun q => by omega, fun q => absurd (fun j h0 h1 => Classical.byContradiction (fun z => b j h0 h1 z)) q⟩
theorem contains59 (l : List S46) (hl : (l.length : Int) ≤ 9223372036854775807) : ∃ b, Ev (fun k => api_Point_55_at_59.f k l) b ∧ (b = true ↔ ¬ NonZ l) := by
  obtain ⟨r, hr, h⟩ := index_ev (l.length : Int) (fun i => (rd_T46 l i).f1 = 0) (fun i k => api_Point_70_at_59.l0 k l (l.length : Int) i)
    (Ev.step (fun k => api_Point_70_at_59.l0.eq_2 ..) (evn (by omega) (Ev.now _)))
    (fun i h0 h1 hq => Ev.step (fun k => api_Point_70_at_59.l0.eq_2 ..) (evp h1 (evp h0 (evp h1 (evb (evc (fun _ => rfl) (show profile_Check_2.f (rd_T46 l i).f0 (rd_T46 l i).f1 = some ((rd_T46 l i).f1 == 0) from rfl)) (evp (beq_iff_eq.2 hq) (Ev.now _)))))))
    (fun i h0 h1 hq r hr => by
      rw [← w64_succ h0 h1 hl] at hr
      exact Ev.step (fun k => api_Point_70_at_59.l0.eq_2 ..) (evp h1 (evp h0 (evp h1 (evb (evc (fun _ => rfl) (show profile_Check_2.f (rd_T46 l i).f0 (rd_T46 l i).f1 = some ((rd_T46 l i).f1 == 0) from rfl)) (evn (by simpa using hq) hr)))))) 0 (by omega) (by omega)
  refine ⟨decide (r ≥ 0), evb hr (Ev.now _), ?_⟩
  rw [decide_eq_true_eq]
  rcases h with ⟨a, _, c, d, _⟩ | ⟨a, b⟩
  · exact ⟨fun _ q => q r a c d, fun _ => a⟩
  · exact ⟨fun q => by omega, fun q => absurd (fun j h0 h1 => b j h0 h1) q⟩
theorem nbs_drop {l : List S46} {i : Int} (h0 : 1 ≤ i) (h1 : i < (l.length : Int)) : (nbs l).drop (i - 1).toNat = (rd_T46 l (i - 1), rd_T46 l i) :: (nbs l).drop i.toNat := by
  have h : (i - 1).toNat < (nbs l).length := by rw [nbs_len]; omega
  rw [List.drop_eq_getElem_cons h, show (i - 1).toNat + 1 = i.toNat from by omega]
  congr 1
  have g : (nbs l)[(i - 1).toNat]? = some (rd_T46 l (i - 1), rd_T46 l i) := by
    unfold nbs
    rw [List.getElem?_zip_eq_some]
    constructor
    · unfold rd_T46
      rw [List.getD_eq_getElem?_getD, List.getElem?_eq_getElem (show (i - 1).toNat < l.length by omega)]
      rfl
    · unfold rd_T46
      show l.tail[(i - 1).toNat]? = some (l.getD i.toNat z46)
      rw [List.getElem?_tail, List.getD_eq_getElem?_getD, show (i - 1).toNat + 1 = i.toNat from by omega, List.getElem?_eq_getElem (show i.toNat < l.length by omega)]
      rfl
  exact Option.some.inj ((List.getElem?_eq_getElem h).symm.trans g)
theorem nbs_end (l : List S46) {i : Int} (h : (l.length : Int) ≤ i) : (nbs l).drop (i - 1).toNat = [] := List.drop_eq_nil_of_le (by rw [nbs_len]; omega)
theorem falls_or : ∀ t l, profile_Check.falls t l = 0 ∨ profile_Check.falls t l = 10
  | _, [] => .inl rfl
  | t, x :: r => by
    unfold profile_Check.falls
    split
    · exact .inr rfl
    · exact falls_or _ r
theorem ref_falls (l : List S46) (hl : (l.length : Int) ≤ 9223372036854775807) : ∀ i, 1 ≤ i → ∀ t, (i ≤ (l.length : Int) ∨ l.length = 0) → Ev (fun k => spileref08_Check.l3 k l t i) (profile_Check.falls t ((nbs l).drop (i - 1).toNat)) := by
  intro i h0 t hi
  by_cases c : i ≤ (l.length : Int)
  case neg =>
    rw [nbs_end l (by omega)]
    exact Ev.step (fun k => spileref08_Check.l3.eq_2 ..) (evn (by omega) (Ev.now _))
  refine count_up 1 (l.length : Int) (fun i => ∀ t, Ev (fun k => spileref08_Check.l3 k l t i) (profile_Check.falls t ((nbs l).drop (i - 1).toNat))) ?_ ?_ i h0 c t
  · intro t
    rw [nbs_end l (Int.le_refl _)]
    exact Ev.step (fun k => spileref08_Check.l3.eq_2 ..) (evn (by omega) (Ev.now _))
  · intro i h0 h1 ih t
    have w0 : wrap64 (i - 1) = i - 1 := w64 (by omega) (by omega)
    have w1 : wrap64 (i + 1) = i + 1 := w64 (by omega) (by omega)
    rw [nbs_drop h0 h1]
    unfold profile_Check.falls
    rw [show i + 1 - 1 = i from by omega] at ih
    refine Ev.step (fun k => spileref08_Check.l3.eq_2 ..) (evp h1 ?_)
    rw [w0, w1]
    cases t with
    | true =>
      refine evp rfl (evp (by omega) (evp (by omega) (evp (by omega) ?_)))
      by_cases q : (rd_T46 l i).f1 > (rd_T46 l (i - 1)).f1
      · rw [if_pos ⟨rfl, q⟩]
        exact evp q (Ev.now _)
      · rw [if_neg (fun z => q z.2)]
        exact evn q (by simpa using ih true)
    | false =>
      rw [if_neg (fun z => by cases z.1)]
      exact evn (by decide) (evp (by omega) (evp (by omega) (evp (by omega) (by simpa using ih (decide ((rd_T46 l i).f1 < (rd_T46 l (i - 1)).f1))))))
theorem ref_zero (l : List S46) (hl : (l.length : Int) ≤ 9223372036854775807) (r3 : Int) (h3 : Ev (fun k => spileref08_Check.l3 k l false 1) r3) : ∀ i, 0 ≤ i → i ≤ (l.length : Int) → ∃ e, Ev (fun k => spileref08_Check.l2 k l i) e ∧ ((∀ j, i ≤ j → j < (l.length : Int) → (rd_T46 l j).f1 ≠ 0) → e = r3) ∧ (¬ (∀ j, i ≤ j → j < (l.length : Int) → (rd_T46 l j).f1 ≠ 0) → e = 16) := by
  refine count_up 0 (l.length : Int) _ ?_ ?_
  · exact ⟨r3, Ev.step (fun k => spileref08_Check.l2.eq_2 ..) (evn (by omega) h3), fun _ => rfl, fun h => absurd (fun j a b => by omega) h⟩
  · intro i h0 h1 ih
    by_cases c : (rd_T46 l i).f1 = 0
    · exact ⟨16, Ev.step (fun k => spileref08_Check.l2.eq_2 ..) (evp h1 (evp h0 (evp c (Ev.now _)))), fun h => absurd c (h i (Int.le_refl _) h1), fun _ => rfl⟩
    · obtain ⟨e, he, a, b⟩ := ih
      rw [← w64_succ h0 h1 hl] at he
      refine ⟨e, Ev.step (fun k => spileref08_Check.l2.eq_2 ..) (evp h1 (evp h0 (evn c he))), fun h => a (fun j x y => h j (by omega) y), fun h => b (fun z => h (fun j x y => ?_))⟩
      by_cases q : j = i
      · rw [q]; exact c
      · exact z j (by omega) y
theorem ref_steps (l : List S46) (hl : (l.length : Int) ≤ 9223372036854775807) (r2 : Int) (h2 : Ev (fun k => spileref08_Check.l2 k l 0) r2) : ∀ i, 1 ≤ i → i ≤ (l.length : Int) → Ev (fun k => spileref08_Check.l1 k l i) (if profile_Check.steps ((nbs l).drop (i - 1).toNat) = 0 then r2 else 5) := by
  refine count_up 1 (l.length : Int) _ ?_ ?_
  · rw [nbs_end l (Int.le_refl _)]
    exact Ev.step (fun k => spileref08_Check.l1.eq_2 ..) (evn (by omega) h2)
  · intro i h0 h1 ih
    have w0 : wrap64 (i - 1) = i - 1 := w64 (by omega) (by omega)
    have w1 : wrap64 (i + 1) = i + 1 := w64 (by omega) (by omega)
    rw [show i + 1 - 1 = i from by omega] at ih
    rw [nbs_drop h0 h1]
    unfold profile_Check.steps
    refine Ev.step (fun k => spileref08_Check.l1.eq_2 ..) (evp h1 ?_)
    rw [w0, w1]
    refine evn (by omega) (evp (by omega) (evp (by omega) (evp (by omega) (evp (by omega) ?_))))
    by_cases q : (rd_T46 l (i - 1)).f0 ≥ (rd_T46 l i).f0
    · rw [if_pos q, if_neg (by decide)]
      exact evp q (Ev.now _)
    · rw [if_neg q]
      exact evn q ih
theorem ref_all (l : List S46) (hl : (l.length : Int) ≤ 9223372036854775807) (r1 : Int) (h1 : Ev (fun k => spileref08_Check.l1 k l 0) r1) : ∀ i, 0 ≤ i → i ≤ (l.length : Int) → ∃ e, Ev (fun k => spileref08_Check.l0 k l i) e ∧ ((∀ j, i ≤ j → j < (l.length : Int) → PtP (rd_T46 l j)) → e = r1) ∧ (¬ (∀ j, i ≤ j → j < (l.length : Int) → PtP (rd_T46 l j)) → e = 2) := by
  refine count_up 0 (l.length : Int) _ ?_ ?_
  · exact ⟨r1, Ev.step (fun k => spileref08_Check.l0.eq_2 ..) (evn (by omega) h1), fun _ => rfl, fun h => absurd (fun j a b => by omega) h⟩
  · intro i h0 h1 ih
    by_cases c : LenP (rd_T46 l i).f0
    · by_cases d : LenP (rd_T46 l i).f1
      · obtain ⟨e, he, a, b⟩ := ih
        rw [← w64_succ h0 h1 hl] at he
        refine ⟨e, Ev.step (fun k => spileref08_Check.l0.eq_2 ..) (evp h1 (evp h0 (evb (evc (fun _ => rfl) (isLength_f _)) (evp (decide_eq_true c) (evb (evc (fun _ => rfl) (isLength_f _)) (evp (decide_eq_true d) he)))))), fun h => a (fun j x y => h j (by omega) y), fun h => b (fun z => h (fun j x y => ?_))⟩
        by_cases q : j = i
        · rw [q]; exact ⟨c, d⟩
        · exact z j (by omega) y
      · exact ⟨2, Ev.step (fun k => spileref08_Check.l0.eq_2 ..) (evp h1 (evp h0 (evb (evc (fun _ => rfl) (isLength_f _)) (evp (decide_eq_true c) (evb (evc (fun _ => rfl) (isLength_f _)) (evn (by simp [d]) (Ev.now _))))))), fun h => absurd (h i (Int.le_refl _) h1).2 d, fun _ => rfl⟩
    · exact ⟨2, Ev.step (fun k => spileref08_Check.l0.eq_2 ..) (evp h1 (evp h0 (evb (evc (fun _ => rfl) (isLength_f _)) (evn (by simp [c]) (Ev.now _))))), fun h => absurd (h i (Int.le_refl _) h1).1 c, fun _ => rfl⟩
def OKP (l : List S46) : Prop := 2 ≤ (l.length : Int) ∧ (l.length : Int) ≤ 32 ∧ AllP l ∧ (rd_T46 l 0).f0 = 0 ∧ profile_Check.steps (nbs l) = 0 ∧ NonZ l ∧ profile_Check.falls false (nbs l) = 0
theorem prof_both (l : List S46) (hl : (l.length : Int) ≤ 9223372036854775807) : ∃ e, Ev (fun k => profile_Check.f k l) e ∧ Ev (fun k => spileref08_Check.f k l) e ∧ (e = 0 ↔ OKP l) ∧ e ≠ 3 := by
  by_cases c1 : (l.length : Int) < 2
  · exact ⟨9, evp c1 (Ev.now _), evp c1 (Ev.now _), ⟨fun h => absurd h (by decide), fun h => by have := h.1; omega⟩, by decide⟩
  by_cases c2 : (l.length : Int) > 32
  · exact ⟨8, evn c1 (evp c2 (Ev.now _)), evn c1 (evp c2 (Ev.now _)), ⟨fun h => absurd h (by decide), fun h => by have := h.2.1; omega⟩, by decide⟩
  obtain ⟨b1, hb1, hi1⟩ := contains56 l hl
  obtain ⟨b2, hb2, hi2⟩ := contains59 l hl
  have h3 := ref_falls l hl 1 (by omega) false (.inl (by omega))
  rw [show ((1 : Int) - 1).toNat = 0 from rfl, List.drop_zero] at h3
  obtain ⟨r2, h2, a2, z2⟩ := ref_zero l hl _ h3 0 (by omega) (by omega)
  have h1 := ref_steps l hl r2 h2 1 (by omega) (by omega)
  rw [show ((1 : Int) - 1).toNat = 0 from rfl, List.drop_zero] at h1
  have h10 : Ev (fun k => spileref08_Check.l1 k l 0) (if (rd_T46 l 0).f0 = 0 then (if profile_Check.steps (nbs l) = 0 then r2 else 5) else 5) := by
    refine Ev.step (fun k => spileref08_Check.l1.eq_2 ..) (evp (by omega) (evp rfl (evp (by omega) ?_)))
    by_cases q : (rd_T46 l 0).f0 = 0
    · rw [if_pos q]
      exact evp q (evn (by omega) (by rw [show wrap64 ((0 : Int) + 1) = 1 from w64 (by omega) (by omega)]; exact h1))
    · rw [if_neg q]
      exact evn q (Ev.now _)
  obtain ⟨e, he, ea, ez⟩ := ref_all l hl _ h10 0 (by omega) (by omega)
  have hE2 : Ev (fun k => spileref08_Check.f k l) e := evn c1 (evn c2 he)
  by_cases ha : AllP l
  case neg =>
    obtain rfl := ez ha
    exact ⟨2, evn c1 (evn c2 (evb hb1 (evp (hi1.2 ha) (Ev.now _)))), hE2, ⟨fun h => absurd h (by decide), fun h => absurd h.2.2.1 ha⟩, by decide⟩
  have hb1f : ¬ b1 = true := fun q => hi1.1 q ha
  have he1 := ea ha
  by_cases h0 : (rd_T46 l 0).f0 = 0
  case neg =>
    rw [if_neg h0] at he1
    subst he1
    exact ⟨5, evn c1 (evn c2 (evb hb1 (evn hb1f (evn h0 (Ev.now _))))), hE2, ⟨fun h => absurd h (by decide), fun h => absurd h.2.2.2.1 h0⟩, by decide⟩
  rw [if_pos h0] at he1
  by_cases hs : profile_Check.steps (nbs l) = 0
  case neg =>
    rw [if_neg hs] at he1
    subst he1
    exact ⟨5, evn c1 (evn c2 (evb hb1 (evn hb1f (evp h0 (evn hs (Ev.now _)))))), hE2, ⟨fun h => absurd h (by decide), fun h => absurd h.2.2.2.2.1 hs⟩, by decide⟩
  rw [if_pos hs] at he1
  by_cases hz : NonZ l
  case neg =>
    have := z2 hz
    subst he1
    subst this
    exact ⟨16, evn c1 (evn c2 (evb hb1 (evn hb1f (evp h0 (evp hs (evb hb2 (evp (hi2.2 hz) (Ev.now _)))))))), hE2, ⟨fun h => absurd h (by decide), fun h => absurd h.2.2.2.2.2.1 hz⟩, by decide⟩
  have := a2 hz
  subst he1
  subst this
  refine ⟨_, evn c1 (evn c2 (evb hb1 (evn hb1f (evp h0 (evp hs (evb hb2 (evn (fun q => hi2.1 q hz) (Ev.now _)))))))), hE2, ⟨fun h => ⟨by omega, by omega, ha, h0, hs, hz, h⟩, fun h => h.2.2.2.2.2.2⟩, ?_⟩
  rcases falls_or false (nbs l) with q | q <;> rw [q] <;> decide
def OKC (x : S27) : Prop := NameP x.f0 ∧ (x.f1 = 1 ∨ x.f1 = 2) ∧ 0 ≤ x.f3 ∧ x.f3 ≤ 1073741824 ∧ OKP x.f2
/-- Of sizes that a machine can have. -/
def Sm (x : S27) : Prop := x.f0.size < 4294967296 ∧ x.f2.length < 4294967296
theorem check_both (x : S27) (hx : Sm x) : ∃ e, Ev (fun k => cask_Check.f k x.f0 x.f1 x.f2 x.f3) e ∧ Ev (fun k => spileref09_Check.f k x.f0 x.f1 x.f2 x.f3) e ∧ (e = 0 ↔ OKC x) ∧ e ≠ 3 := by
  obtain ⟨b, n1, n2, n3⟩ := name_both x.f0 (by have := hx.1; omega)
  obtain ⟨e, p1, p2, p3, p4⟩ := prof_both x.f2 (by have := hx.2; omega)
  cases b with
  | false =>
    exact ⟨4, evb n1 (evn (by decide) (Ev.now _)), evb n2 (evn (by decide) (Ev.now _)), ⟨fun h => absurd h (by decide), fun h => absurd (n3.2 h.1) (by decide)⟩, by decide⟩
  | true =>
    have hn := n3.1 rfl
    have fin : (x.f1 = 1 ∨ x.f1 = 2) → ∃ e, Ev (fun k => cask_Check.j0 k false x.f0 x.f1 x.f2 x.f3) e ∧ Ev (fun k => if x.f3 < 0 then some 2 else if x.f3 > 1073741824 then some 2 else (spileref08_Check.f k x.f2).bind fun t => some t) e ∧ (e = 0 ↔ OKC x) ∧ e ≠ 3 := by
      intro hpos
      by_cases d1 : x.f3 < 0
      · exact ⟨2, Ev.step (fun k => cask_Check.j0.eq_2 ..) (evn (by decide) (evp d1 (Ev.now _))), evp d1 (Ev.now _), ⟨fun h => absurd h (by decide), fun h => by have := h.2.2.1; omega⟩, by decide⟩
      by_cases d2 : x.f3 > 1073741824
      · exact ⟨2, Ev.step (fun k => cask_Check.j0.eq_2 ..) (evn (by decide) (evn d1 (evp d2 (Ev.now _)))), evn d1 (evp d2 (Ev.now _)), ⟨fun h => absurd h (by decide), fun h => by have := h.2.2.2.1; omega⟩, by decide⟩
      exact ⟨e, Ev.step (fun k => cask_Check.j0.eq_2 ..) (evn (by decide) (evn d1 (evn d2 (evb p1 (Ev.now _))))), evn d1 (evn d2 (evb p2 (Ev.now _))), p3.trans ⟨fun h => ⟨hn, hpos, by omega, by omega, h⟩, fun h => h.2.2.2.2⟩, p4⟩
    by_cases c1 : x.f1 = 1
    · obtain ⟨e, a, b, c, d⟩ := fin (.inl c1)
      exact ⟨e, evb n1 (evp rfl (evp c1 a)), evb n2 (evp rfl (evp c1 b)), c, d⟩
    · by_cases c2 : x.f1 = 2
      · obtain ⟨e, a, b, c, d⟩ := fin (.inr c2)
        exact ⟨e, evb n1 (evp rfl (evn c1 (by rw [show (x.f1 != 2) = false from by simp [c2]]; exact a))), evb n2 (evp rfl (evn c1 (evp c2 b))), c, d⟩
      · refine ⟨2, evb n1 (evp rfl (evn c1 (Ev.step (fun k => cask_Check.j0.eq_2 ..) (evp (by simp [c2]) (Ev.now _))))), evb n2 (evp rfl (evn c1 (evn c2 (Ev.now _)))), ⟨fun h => absurd h (by decide), fun h => ?_⟩, by decide⟩
        rcases h.2.1 with q | q
        · exact absurd q c1
        · exact absurd q c2
def SmL (l : List S27) : Prop := l.length < 4294967296 ∧ ∀ x, x ∈ l → Sm x
theorem rd27_mem {l : List S27} {i : Int} (h0 : 0 ≤ i) (h : i < (l.length : Int)) : rd_T27 l i ∈ l := by
  unfold rd_T27
  rw [List.getD_eq_getElem?_getD, List.getElem?_eq_getElem (by omega)]
  exact List.getElem_mem _
theorem drop27 {l : List S27} {i : Int} (h0 : 0 ≤ i) (h1 : i < (l.length : Int)) : l.drop i.toNat = rd_T27 l i :: l.drop (i + 1).toNat := by
  have hl : i.toNat < l.length := by omega
  have g : rd_T27 l i = l[i.toNat] := by
    unfold rd_T27
    simp [List.getD_eq_getElem?_getD, List.getElem?_eq_getElem hl]
  rw [g, show (i + 1).toNat = i.toNat + 1 from by omega, ← List.drop_eq_getElem_cons hl]
def nm (x : S27) : List UInt8 := x.f0.data.toList
/-- No name from i on stands ahead of itself. -/
def NoDup (l : List S27) (i : Int) : Prop := ∀ j, i ≤ j → j < (l.length : Int) → ∀ m, 0 ≤ m → m < j → nm (rd_T27 l j) ≠ nm (rd_T27 l m)
theorem tw_ev (l : List S27) (hl : SmL l) : ∀ i, 0 ≤ i → i ≤ (l.length : Int) → ∀ s, (∀ x, x ∈ s ↔ ∃ m, 0 ≤ m ∧ m < i ∧ nm (rd_T27 l m) = x) →
    ∃ e, cask_List.tw s (l.drop i.toNat) = some e ∧ (NoDup l i → e = 0) ∧ (¬ NoDup l i → e = 6) := by
  refine count_up 0 (l.length : Int) _ ?_ ?_
  · intro s hs
    rw [List.drop_eq_nil_of_le (by omega)]
    exact ⟨0, rfl, fun _ => rfl, fun h => absurd (fun j a b => by omega) h⟩
  · intro i h0 h1 ih s hs
    rw [drop27 h0 h1]
    unfold cask_List.tw
    rw [if_pos (hl.2 _ (rd27_mem h0 h1)).1]
    by_cases c : (rd_T27 l i).f0.data.toList ∈ s
    · refine ⟨6, by rw [if_pos c], fun h => ?_, fun _ => rfl⟩
      obtain ⟨m, m0, m1, m2⟩ := (hs _).1 c
      exact absurd m2.symm (h i (Int.le_refl _) h1 m m0 m1)
    · obtain ⟨e, e1, e2, e3⟩ := ih ((rd_T27 l i).f0.data.toList :: s) (fun x => by
        rw [List.mem_cons, hs]
        constructor
        · rintro (q | ⟨m, m0, m1, m2⟩)
          · exact ⟨i, h0, by omega, q.symm⟩
          · exact ⟨m, m0, by omega, m2⟩
        · rintro ⟨m, m0, m1, m2⟩
          by_cases q : m = i
          · subst q; exact .inl m2.symm
          · exact .inr ⟨m, m0, by omega, m2⟩)
      refine ⟨e, by rw [if_neg c]; exact e1, fun h => e2 (fun j a b => h j (by omega) b), fun h => e3 (fun z => h (fun j a b m m0 m1 => ?_))⟩
      by_cases q : j = i
      · subst q
        exact fun z2 => c ((hs _).2 ⟨m, m0, m1, z2.symm⟩)
      · exact z j (by omega) b m m0 m1
theorem toL (s : ByteArray) : s.toList = s.data.toList := Lib.toList_data s
theorem ref_dup (l : List S27) (hl : SmL l) : ∀ i, 0 ≤ i → i ≤ (l.length : Int) → ∃ e, Ev (fun k => spileref09_List.l1 k l i) e ∧ (NoDup l i → e = 0) ∧ (¬ NoDup l i → e = 6) := by
  have hz := hl.1
  refine count_up 0 (l.length : Int) _ ?_ ?_
  · exact ⟨0, Ev.step (fun k => spileref09_List.l1.eq_2 ..) (evn (by omega) (Ev.now _)), fun _ => rfl, fun h => absurd (fun j a b => by omega) h⟩
  · intro i h0 h1 ⟨e, e1, e2, e3⟩
    rw [← w64_succ h0 h1 (by omega)] at e1
    have key : ∀ m, 0 ≤ m → m ≤ i → ∃ e', Ev (fun k => spileref09_List.l2 k l i m) e' ∧ ((∀ q, m ≤ q → q < i → nm (rd_T27 l i) ≠ nm (rd_T27 l q)) → e' = e) ∧ (¬ (∀ q, m ≤ q → q < i → nm (rd_T27 l i) ≠ nm (rd_T27 l q)) → e' = 6) := by
      refine count_up 0 i _ ?_ ?_
      · exact ⟨e, Ev.step (fun k => spileref09_List.l2.eq_2 ..) (evn (by omega) e1), fun _ => rfl, fun h => absurd (fun q a b => by omega) h⟩
      · intro m m0 m1 ⟨f, f1, f2, f3⟩
        by_cases c : ((rd_T27 l i).f0).toList = ((rd_T27 l m).f0).toList
        · exact ⟨6, Ev.step (fun k => spileref09_List.l2.eq_2 ..) (evp m1 (evp h0 (evp h1 (evp m0 (evp (by omega) (evp c (Ev.now _))))))), fun h => absurd (by rw [toL, toL] at c; exact c) (h m (Int.le_refl _) m1), fun _ => rfl⟩
        · rw [← w64_succ m0 m1 (by omega)] at f1
          refine ⟨f, Ev.step (fun k => spileref09_List.l2.eq_2 ..) (evp m1 (evp h0 (evp h1 (evp m0 (evp (by omega) (evn c f1)))))), fun h => f2 (fun q a b => h q (by omega) b), fun h => f3 (fun z => h (fun q a b => ?_))⟩
          by_cases qe : q = m
          · subst qe
            exact fun z2 => c (by rw [toL, toL]; exact z2)
          · exact z q (by omega) b
    obtain ⟨f, f1, f2, f3⟩ := key 0 (by omega) h0
    refine ⟨f, Ev.step (fun k => spileref09_List.l1.eq_2 ..) (evp h1 f1), fun h => ?_, fun h => ?_⟩
    · rw [f2 (fun q a b => h i (Int.le_refl _) h1 q a b)]
      exact e2 (fun j a b => h j (by omega) b)
    · by_cases z : ∀ q, 0 ≤ q → q < i → nm (rd_T27 l i) ≠ nm (rd_T27 l q)
      · rw [f2 z]
        refine e3 (fun y => h (fun j a b m m0 m1 => ?_))
        by_cases q : j = i
        · subst q; exact z m m0 m1
        · exact y j (by omega) b m m0 m1
      · exact f3 z
def OKL (l : List S27) : Prop := (l.length : Int) ≤ 32 ∧ (∀ x, x ∈ l → OKC x) ∧ NoDup l 0
theorem ck_both (l : List S27) (hl : SmL l) (r1 : Int) (h1 : Ev (fun k => spileref09_List.l1 k l 0) r1) : ∀ i, 0 ≤ i → i ≤ (l.length : Int) → ∃ e f, Ev (fun k => cask_List.ck k (l.drop i.toNat)) e ∧ Ev (fun k => spileref09_List.l0 k l i) f ∧ e ≠ 3 ∧
    ((∀ x, x ∈ l.drop i.toNat → OKC x) → e = 0 ∧ f = r1) ∧ (¬ (∀ x, x ∈ l.drop i.toNat → OKC x) → e ≠ 0 ∧ f = e) := by
  have hz := hl.1
  refine count_up 0 (l.length : Int) _ ?_ ?_
  · rw [List.drop_eq_nil_of_le (by omega)]
    exact ⟨0, r1, evr rfl, Ev.step (fun k => spileref09_List.l0.eq_2 ..) (evn (by omega) h1), by decide, fun _ => ⟨rfl, rfl⟩, fun h => absurd (fun x hx => by cases hx) h⟩
  · intro i h0 h1 ⟨e, f, e1, f1, e3, a, b⟩
    obtain ⟨c, c1, c2, c3, c4⟩ := check_both (rd_T27 l i) (hl.2 _ (rd27_mem h0 h1))
    rw [← w64_succ h0 h1 (by omega)] at f1
    rw [drop27 h0 h1]
    by_cases z : c = 0
    · have hok := c3.1 z
      refine ⟨e, f, evb c1 (evp z e1), Ev.step (fun k => spileref09_List.l0.eq_2 ..) (evp h1 (evp h0 (evb c2 (evp z f1)))), e3, fun h => a (fun x hx => h x (List.mem_cons_of_mem _ hx)), fun h => b (fun y => h (fun x hx => ?_))⟩
      rcases List.mem_cons.1 hx with q | q
      · rw [q]; exact hok
      · exact y x q
    · exact ⟨c, c, evb c1 (evn z (Ev.now _)), Ev.step (fun k => spileref09_List.l0.eq_2 ..) (evp h1 (evp h0 (evb c2 (evn z (Ev.now _))))), c4, fun h => absurd (c3.2 (h _ (List.mem_cons_self ..))) z, fun _ => ⟨z, rfl⟩⟩
theorem list_both (l : List S27) (hl : SmL l) : ∃ e, Ev (fun k => cask_List.f k l) e ∧ Ev (fun k => spileref09_List.f k l) e ∧ (e = 0 ↔ OKL l) ∧ e ≠ 3 := by
  by_cases c : (l.length : Int) > 32
  · exact ⟨8, evp c (Ev.now _), evp c (Ev.now _), ⟨fun h => absurd h (by decide), fun h => by have := h.1; omega⟩, by decide⟩
  obtain ⟨t, t1, t2, t3⟩ := tw_ev l hl 0 (by omega) (by omega) [] (fun x => ⟨fun h => (by cases h), fun ⟨m, a, b, _⟩ => (by omega)⟩)
  obtain ⟨d, d1, d2, d3⟩ := ref_dup l hl 0 (by omega) (by omega)
  obtain ⟨e, f, e1, f1, e3, a, b⟩ := ck_both l hl d d1 0 (by omega) (by omega)
  rw [show (0 : Int).toNat = 0 from rfl, List.drop_zero] at t1 e1 a b
  have htd : t = d ∧ (t = 0 ↔ NoDup l 0) ∧ t ≠ 3 := by
    by_cases q : NoDup l 0
    · rw [t2 q, d2 q]; exact ⟨rfl, ⟨fun _ => q, fun _ => rfl⟩, by decide⟩
    · rw [t3 q, d3 q]; exact ⟨rfl, ⟨fun h => absurd h (by decide), fun h => absurd h q⟩, by decide⟩
  by_cases ok : ∀ x, x ∈ l → OKC x
  · obtain ⟨rfl, rfl⟩ := a ok
    refine ⟨t, evn c (evb e1 (evp rfl (evc (fun _ => rfl) t1))), evn c (by rw [htd.1]; exact f1), htd.2.1.trans ⟨fun h => ⟨by omega, ok, h⟩, fun h => h.2.2⟩, htd.2.2⟩
  · obtain ⟨z, rfl⟩ := b ok
    exact ⟨f, evn c (evb e1 (evn z (Ev.now _))), evn c f1, ⟨fun h => absurd h z, fun h => absurd h.2.1 ok⟩, e3⟩
end Go.Proofs.YtnhmlneebnkjcaaDoor.PL
namespace Go.Proofs.YtnhmlneebnkjcaaDoor.PL
open Go Go.RowKit Go.Proofs.YtnhmlneebnkjcaaDoorW.PrintWords Go.Proofs.YtnhmlneebnkjcaaDoorW.PrintLast Go.Proofs.YtnhmlneebnkjcaaDoorW.PrintMore Go.Proofs.YtnhmlneebnkjcaaDoor.Pr Go.Proofs.YtnhmlneebnkjcaaDoor.Opn Go.Proofs.YtnhmlneebnkjcaaDoor.X
def FewP (l : List S27) : Prop := (l.length : Int) ≤ 33 ∧ ∀ x, x ∈ l → x.f2.length ≤ 33 ∧ x.f0.size ≤ 70
theorem FewP.sm {l : List S27} (h : FewP l) : SmL l := ⟨by have := h.1; omega, fun x hx => ⟨by have := (h.2 x hx).2; omega, by have := (h.2 x hx).1; omega⟩⟩
theorem few_ev (l : List S27) (hl : (l.length : Int) ≤ 9223372036854775807) : ∃ b, Ev (fun k => spileref09_Few.f k l) b ∧ (b = true → FewP l) := by
  have key : ∀ i, 0 ≤ i → i ≤ (l.length : Int) → ∃ b, Ev (fun k => spileref09_Few.l0 k l i) b ∧ (b = true → (l.length : Int) ≤ 33 ∧ ∀ x, x ∈ l.drop i.toNat → x.f2.length ≤ 33 ∧ x.f0.size ≤ 70) := by
    refine count_up 0 (l.length : Int) _ ?_ ?_
    · refine ⟨_, Ev.step (fun k => spileref09_Few.l0.eq_2 ..) (evn (by omega) (Ev.now _)), fun h => ⟨of_decide_eq_true h, fun x hx => ?_⟩⟩
      rw [List.drop_eq_nil_of_le (by omega)] at hx
      cases hx
    · intro i h0 h1 ⟨b, hb, hi⟩
      have hf : Ev (fun _ : Nat => spileref08_Few.f (rd_T27 l i).f2) (decide (((rd_T27 l i).f2.length : Int) ≤ 33)) := Ev.now _
      by_cases c : ((rd_T27 l i).f2.length : Int) ≤ 33
      · by_cases d : ((rd_T27 l i).f0.size : Int) > 70
        · exact ⟨false, Ev.step (fun k => spileref09_Few.l0.eq_2 ..) (evp h1 (evp h0 (evb hf (evp (decide_eq_true c) (evp d (Ev.now _)))))), fun h => by cases h⟩
        · rw [← w64_succ h0 h1 hl] at hb
          refine ⟨b, Ev.step (fun k => spileref09_Few.l0.eq_2 ..) (evp h1 (evp h0 (evb hf (evp (decide_eq_true c) (evn d hb))))), fun h => ⟨(hi h).1, fun x hx => ?_⟩⟩
          rw [drop27 h0 h1] at hx
          rcases List.mem_cons.1 hx with q | q
          · rw [q]; exact ⟨by omega, by omega⟩
          · exact (hi h).2 x q
      · exact ⟨false, Ev.step (fun k => spileref09_Few.l0.eq_2 ..) (evp h1 (evp h0 (evb hf (evn (by simpa using c) (Ev.now _))))), fun h => by cases h⟩
  obtain ⟨b, hb, hi⟩ := key 0 (by omega) (by omega)
  exact ⟨b, hb, fun h => by have := hi h; rwa [show (0 : Int).toNat = 0 from rfl, List.drop_zero] at this⟩
theorem copy_ev (l : List S27) (hl : SmL l) : Ev (fun k => spileref09_Copy.f k l) l := by
  have hz := hl.1
  have key : ∀ i, 0 ≤ i → i ≤ (l.length : Int) → Ev (fun k => spileref09_Copy.l0 k l (l.take i.toNat) i) l := by
    refine count_up 0 (l.length : Int) _ ?_ ?_
    · rw [show ((l.length : Int)).toNat = l.length from by omega, List.take_length]
      exact Ev.step (fun k => spileref09_Copy.l0.eq_2 ..) (evn (by omega) (Ev.now _))
    · intro i h0 h1 ih
      have hs := (hl.2 _ (rd27_mem h0 h1)).2
      rw [← w64_succ h0 h1 (by omega)] at ih
      have e : l.take (wrap64 (i + 1)).toNat = l.take i.toNat ++ [(⟨(rd_T27 l i).f0, (rd_T27 l i).f1, ([] : List S46) ++ (rd_T27 l i).f2, (rd_T27 l i).f3⟩ : S27)] := by
        rw [w64_succ h0 h1 (by omega), show (i + 1).toNat = i.toNat + 1 from by omega, List.take_add_one, List.nil_append]
        congr 1
        rw [List.getElem?_eq_getElem (by omega)]
        unfold rd_T27
        rw [List.getD_eq_getElem?_getD, List.getElem?_eq_getElem (by omega)]
        rfl
      rw [e] at ih
      refine Ev.step (fun k => spileref09_Copy.l0.eq_2 ..) (evp h1 (evp h0 (evb (Ev.now ([] : List S46)) (evp (by simp; omega) (evp (by rw [List.length_take]; omega) ih)))))
  have := key 0 (by omega) (by omega)
  rwa [show (0 : Int).toNat = 0 from rfl, List.take_zero] at this
theorem toList_inj {a b : ByteArray} (h : a.toList = b.toList) : a = b := by
  rw [toL, toL] at h
  rw [← ba_data a, h, ba_data]
theorem ext46 {a b : List S46} (h : a.length = b.length) (e : ∀ i, 0 ≤ i → i < (a.length : Int) → rd_T46 a i = rd_T46 b i) : a = b := by
  refine List.ext_getElem h fun i h1 h2 => ?_
  have := e (i : Int) (by omega) (by omega)
  unfold rd_T46 at this
  rw [Int.toNat_natCast, List.getD_eq_getElem?_getD, List.getD_eq_getElem?_getD, List.getElem?_eq_getElem h1, List.getElem?_eq_getElem h2] at this
  exact this
theorem same46_ev (a b : List S46) (ha : (a.length : Int) ≤ 9223372036854775807) : EvB (fun k => spileref08_Same.f k a b) (a = b) := by
  by_cases c : (a.length : Int) = (b.length : Int)
  case neg => exact ⟨fun h => absurd (by rw [h]) c, fun _ => evn c (Ev.now _)⟩
  have L := evB_all 0 (a.length : Int) (fun j => rd_T46 a j = rd_T46 b j) (fun i k => spileref08_Same.l0 k a b i)
    (Ev.step (fun k => spileref08_Same.l0.eq_2 ..) (evn (by omega) (Ev.now _)))
    (fun i h0 h1 hq => Ev.step (fun k => spileref08_Same.l0.eq_2 ..) (evp h1 (evp h0 (evp (by omega) (evp (by
      by_cases q : (rd_T46 a i).f0 = (rd_T46 b i).f0
      · have : ¬ (rd_T46 a i).f1 = (rd_T46 b i).f1 := fun z => hq (by cases e : rd_T46 a i; cases e2 : rd_T46 b i; rw [e, e2] at q z; simp_all)
        simp [q, this]
      · simp [q]) (Ev.now _))))))
    (fun i h0 h1 hq r hr => by
      rw [← w64_succ h0 h1 ha] at hr
      exact Ev.step (fun k => spileref08_Same.l0.eq_2 ..) (evp h1 (evp h0 (evp (by omega) (evn (by rw [hq]; simp) hr))))) 0 (by omega) (by omega)
  have L' : EvB (fun k => spileref08_Same.f k a b) (∀ j, 0 ≤ j → j < (a.length : Int) → rd_T46 a j = rd_T46 b j) := ⟨fun h => evp c (L.1 h), fun h => evp c (L.2 h)⟩
  exact L'.iff ⟨fun h => ext46 (by omega) h, fun h => by rw [h]; exact fun _ _ _ => rfl⟩
theorem same27_ev (x y : S27) (hx : (x.f2.length : Int) ≤ 9223372036854775807) : EvB (fun k => spileref09_SameCask.f k x.f0 x.f1 x.f2 x.f3 y.f0 y.f1 y.f2 y.f3) (x = y) := by
  obtain ⟨x0, x1, x2, x3⟩ := x
  obtain ⟨y0, y1, y2, y3⟩ := y
  have h2 := same46_ev x2 y2 hx
  refine ⟨fun h => ?_, fun h => ?_⟩
  · cases h
    exact evp rfl (evp rfl (evp rfl (evb (h2.1 rfl) (Ev.now _))))
  · by_cases c0 : x0.toList = y0.toList
    · by_cases c1 : x1 = y1
      · by_cases c3 : x3 = y3
        · exact evp c0 (evp c1 (evp c3 (evb (h2.2 (fun c2 => h (by rw [toList_inj c0, c1, c2, c3]))) (Ev.now _))))
        · exact evp c0 (evp c1 (evn c3 (Ev.now _)))
      · exact evp c0 (evn c1 (Ev.now _))
    · exact evn c0 (Ev.now _)
theorem own_f (x : S27) (hx : Sm x) : cask_own.f x.f0 x.f1 x.f2 x.f3 = some (x.f0, x.f1, x.f2, x.f3) := by
  unfold cask_own.f
  rw [if_pos (by have := hx.2; simp; omega)]
  rfl
def tup (x : S27) (e : Int) : ByteArray × Int × List S46 × Int × Int := (x.f0, x.f1, x.f2, x.f3, e)
def none27 : S27 := ⟨⟨#[]⟩, 0, [], 0⟩
theorem find_both (l : List S27) (hl : SmL l) (a : ByteArray) : ∃ x e, Ev (fun k => cask_Find.f k l a) (tup x e) ∧ Ev (fun k => spileref09_Find.f k l a) (tup x e) ∧ (x.f2.length : Int) ≤ 9223372036854775807 ∧
    (OKL l → (∃ i, 0 ≤ i ∧ i < (l.length : Int) ∧ nm (rd_T27 l i) = a.data.toList ∧ x = rd_T27 l i ∧ e = 0) ∨ ((∀ i, 0 ≤ i → i < (l.length : Int) → nm (rd_T27 l i) ≠ a.data.toList) ∧ x = none27 ∧ e = 7)) := by
  have hz := hl.1
  obtain ⟨e, e1, e2, e3, _⟩ := list_both l hl
  by_cases c : e = 0
  case neg => exact ⟨none27, e, evb e1 (evn c (Ev.now _)), evb e2 (evn c (Ev.now _)), by simp [none27], fun h => absurd (e3.2 h) c⟩
  have key : ∀ i, 0 ≤ i → i ≤ (l.length : Int) → ∃ x e, Ev (fun k => cask_Find.l0 k a l (l.length : Int) i) (tup x e) ∧ Ev (fun k => spileref09_Find.l0 k l a i) (tup x e) ∧ (x.f2.length : Int) ≤ 9223372036854775807 ∧
      ((∃ j, i ≤ j ∧ j < (l.length : Int) ∧ nm (rd_T27 l j) = a.data.toList ∧ x = rd_T27 l j ∧ e = 0) ∨ ((∀ j, i ≤ j → j < (l.length : Int) → nm (rd_T27 l j) ≠ a.data.toList) ∧ x = none27 ∧ e = 7)) := by
    refine count_up 0 (l.length : Int) _ ?_ ?_
    · exact ⟨none27, 7, Ev.step (fun k => cask_Find.l0.eq_2 ..) (evn (by omega) (Ev.now _)), Ev.step (fun k => spileref09_Find.l0.eq_2 ..) (evn (by omega) (Ev.now _)), by simp [none27], .inr ⟨fun j a b => by omega, rfl, rfl⟩⟩
    · intro i h0 h1 ⟨x, e, x1, x2, x3, x4⟩
      have sm := hl.2 _ (rd27_mem h0 h1)
      by_cases q : (rd_T27 l i).f0.toList = a.toList
      · have one : (l.take (wrap64 (i + 1)).toNat).drop i.toNat = [rd_T27 l i] := by
          rw [w64_succ h0 h1 (by omega), show (i + 1).toNat = i.toNat + 1 from by omega, List.take_add_one, List.getElem?_eq_getElem (by omega)]
          rw [List.drop_append, List.drop_eq_nil_of_le (by rw [List.length_take]; omega), List.length_take, show i.toNat - min i.toNat l.length = 0 from by omega]
          unfold rd_T27
          rw [List.getD_eq_getElem?_getD, List.getElem?_eq_getElem (by omega)]
          rfl
        have hc := copy_ev [rd_T27 l i] ⟨by simp, fun y hy => by rw [List.mem_singleton.1 hy]; exact sm⟩
        rw [← one] at hc
        refine ⟨rd_T27 l i, 0, Ev.step (fun k => cask_Find.l0.eq_2 ..) (evp h1 (evp h0 (evp h1 (evp q (evb (evc (fun _ => rfl) (own_f _ sm)) (Ev.now _)))))), Ev.step (fun k => spileref09_Find.l0.eq_2 ..) (evp h1 (evp h0 (evp q (evp (by rw [w64_succ h0 h1 (by omega)]; omega) (evp (by rw [w64_succ h0 h1 (by omega)]; omega) (evb hc ?_)))))), by have := sm.2; omega, .inl ⟨i, Int.le_refl _, h1, by rw [toL, toL] at q; exact q, rfl, rfl⟩⟩
        rw [one]
        exact evp (by simp) (Ev.now _)
      · rw [← w64_succ h0 h1 (by omega)] at x1 x2
        refine ⟨x, e, Ev.step (fun k => cask_Find.l0.eq_2 ..) (evp h1 (evp h0 (evp h1 (evn q x1)))), Ev.step (fun k => spileref09_Find.l0.eq_2 ..) (evp h1 (evp h0 (evn q x2))), x3, ?_⟩
        rcases x4 with ⟨j, j0, j1, j2⟩ | ⟨n1, n2⟩
        · exact .inl ⟨j, by omega, j1, j2⟩
        · refine .inr ⟨fun j j0 j1 => ?_, n2⟩
          by_cases je : j = i
          · subst je
            exact fun z => q (by rw [toL, toL]; exact z)
          · exact n1 j (by omega) j1
  obtain ⟨x, f, x1, x2, x3, x4⟩ := key 0 (by omega) (by omega)
  exact ⟨x, f, evb e1 (evp c x1), evb e2 (evp c x2), x3, fun _ => x4⟩
def IsMax (v : Int) (l : List S46) : Prop := (∃ j, 0 ≤ j ∧ j < (l.length : Int) ∧ (rd_T46 l j).f1 = v) ∧ ∀ j, 0 ≤ j → j < (l.length : Int) → (rd_T46 l j).f1 ≤ v
theorem IsMax.uniq {u v : Int} {l : List S46} (h : IsMax u l) (h2 : IsMax v l) : u = v := by
  obtain ⟨⟨i, i0, i1, i2⟩, a⟩ := h
  obtain ⟨⟨j, j0, j1, j2⟩, b⟩ := h2
  have := a j j0 j1
  have := b i i0 i1
  omega
theorem bung_both (l : List S46) (hl : (l.length : Int) ≤ 9223372036854775807) (hp : OKP l) : ∃ b, Ev (fun k => profile_Bung.f k l) (b, 0) ∧ Ev (fun k => spileref08_Bung.f k l) (b, 0) ∧ 0 ≤ b ∧ b < (l.length : Int) ∧ IsMax (rd_T46 l b).f1 l := by
  obtain ⟨e, e1, e2, e3, _⟩ := prof_both l hl
  obtain rfl := e3.2 hp
  have hn := hp.1
  have key : ∀ i, 0 ≤ i → i ≤ (l.length : Int) → ∀ b, 0 ≤ b → b < (l.length : Int) → (∀ j, 0 ≤ j → j < i → (rd_T46 l j).f1 ≤ (rd_T46 l b).f1) →
      ∃ r, Ev (fun k => profile_Bung.l0 k l b l (l.length : Int) i) (r, 0) ∧ Ev (fun k => spileref08_Bung.l0 k l b i) (r, 0) ∧ 0 ≤ r ∧ r < (l.length : Int) ∧ ∀ j, 0 ≤ j → j < (l.length : Int) → (rd_T46 l j).f1 ≤ (rd_T46 l r).f1 := by
    refine count_up 0 (l.length : Int) _ ?_ ?_
    · intro b b0 b1 hm
      exact ⟨b, Ev.step (fun k => profile_Bung.l0.eq_2 ..) (evn (by omega) (Ev.now _)), Ev.step (fun k => spileref08_Bung.l0.eq_2 ..) (evn (by omega) (Ev.now _)), b0, b1, hm⟩
    · intro i h0 h1 ih b b0 b1 hm
      by_cases q : (rd_T46 l i).f1 > (rd_T46 l b).f1
      · obtain ⟨r, r1, r2, r3⟩ := ih i h0 h1 (fun j j0 j1 => by
          by_cases je : j = i
          · rw [je]; exact Int.le_refl _
          · have := hm j j0 (by omega); omega)
        rw [← w64_succ h0 h1 hl] at r1 r2
        exact ⟨r, Ev.step (fun k => profile_Bung.l0.eq_2 ..) (evp h1 (evp h0 (evp h1 (evp b0 (evp b1 (evp q r1)))))), Ev.step (fun k => spileref08_Bung.l0.eq_2 ..) (evp h1 (evp h0 (evp b0 (evp b1 (evp q r2))))), r3⟩
      · obtain ⟨r, r1, r2, r3⟩ := ih b b0 b1 (fun j j0 j1 => by
          by_cases je : j = i
          · rw [je]; omega
          · exact hm j j0 (by omega))
        rw [← w64_succ h0 h1 hl] at r1 r2
        exact ⟨r, Ev.step (fun k => profile_Bung.l0.eq_2 ..) (evp h1 (evp h0 (evp h1 (evp b0 (evp b1 (evn q r1)))))), Ev.step (fun k => spileref08_Bung.l0.eq_2 ..) (evp h1 (evp h0 (evp b0 (evp b1 (evn q r2))))), r3⟩
  obtain ⟨r, r1, r2, r3, r4, r5⟩ := key 0 (by omega) (by omega) 0 (by omega) (by omega) (fun j a b => by omega)
  exact ⟨r, evb e1 (evp rfl r1), evb e2 (evp rfl r2), r3, r4, ⟨r, r3, r4, rfl⟩, r5⟩
theorem depth_both (x : S27) (hx : Sm x) : ∃ d e, Ev (fun k => cask_Depth.f k x.f0 x.f1 x.f2 x.f3) (d, e) ∧ Ev (fun k => spileref09_Depth.f k x.f0 x.f1 x.f2 x.f3) (d, e) ∧
    (OKC x → e = 0 ∧ (x.f1 = 1 → ∃ v, IsMax v x.f2 ∧ d = wrap64 (2 * v)) ∧ (x.f1 ≠ 1 → d = (rd_T46 x.f2 ((x.f2.length : Int) - 1)).f0)) := by
  have hz := hx.2
  obtain ⟨e, e1, e2, e3, _⟩ := check_both x hx
  by_cases c : e = 0
  case neg => exact ⟨0, e, evb e1 (evn c (Ev.now _)), evb e2 (evn c (Ev.now _)), fun h => absurd (e3.2 h) c⟩
  have ok := e3.1 c
  have hn := ok.2.2.2.2.1
  by_cases q : x.f1 = 1
  · obtain ⟨b, b1, b2, b3, b4, b5⟩ := bung_both x.f2 (by omega) ok.2.2.2.2
    refine ⟨wrap64 (2 * (rd_T46 x.f2 b).f1), 0, evb e1 (evp c (evp q (evb b1 (evp b3 (evp b4 (Ev.now _)))))), evb e2 (evp c (evp q (evb (show Ev (fun k => spileref09_Radius.f k x.f0 x.f1 x.f2 x.f3) (rd_T46 x.f2 b).f1 from evb b2 (evp b3 (evp b4 (Ev.now _)))) (Ev.now _)))), fun _ => ⟨rfl, fun _ => ⟨_, b5, rfl⟩, fun z => absurd q z⟩⟩
  · obtain ⟨f, f1, f2, f3, _⟩ := prof_both x.f2 (by omega)
    obtain rfl := f3.2 ok.2.2.2.2
    have w : wrap64 ((x.f2.length : Int) - 1) = (x.f2.length : Int) - 1 := w64 (by omega) (by omega)
    have hlen : profile_length.f x.f2 = some (rd_T46 x.f2 ((x.f2.length : Int) - 1)).f0 := by
      unfold profile_length.f
      rw [w, if_pos (by omega), if_pos (by omega)]
    refine ⟨(rd_T46 x.f2 ((x.f2.length : Int) - 1)).f0, 0, evb e1 (evp c (evn q (evb (show Ev (fun k => profile_Length.f k x.f2) ((rd_T46 x.f2 ((x.f2.length : Int) - 1)).f0, 0) from evb f1 (evp rfl (evb (evc (fun _ => rfl) hlen) (Ev.now _)))) (Ev.now _)))), evb e2 (evp c (evn q ?_)), fun _ => ⟨rfl, fun z => absurd z q, fun _ => rfl⟩⟩
    rw [w]
    exact evp (by omega) (evp (by omega) (Ev.now _))
end Go.Proofs.YtnhmlneebnkjcaaDoor.PL
namespace Go.Proofs.YtnhmlneebnkjcaaDoor.Pure
open Go Go.RowKit Go.Proofs.YtnhmlneebnkjcaaDoorW.PrintWords Go.Proofs.YtnhmlneebnkjcaaDoorW.PrintLast Go.Proofs.YtnhmlneebnkjcaaDoorW.PrintMore Go.Proofs.YtnhmlneebnkjcaaDoor.Pr Go.Proofs.YtnhmlneebnkjcaaDoor.Opn Go.Proofs.YtnhmlneebnkjcaaDoor.X Go.Proofs.YtnhmlneebnkjcaaDoor.PL
theorem max_ev (l : List S46) (hl : (l.length : Int) ≤ 9223372036854775807) (h1 : 1 ≤ (l.length : Int)) (ha : AllP l) : ∃ m0 m1, Ev (fun k => api_Point_27_at_28.f k l) (m0, m1) ∧ IsMax m1 l := by
  have key : ∀ i, 1 ≤ i → i ≤ (l.length : Int) → ∀ m0 m1, (∃ j, 0 ≤ j ∧ j < i ∧ (rd_T46 l j).f1 = m1) → (∀ j, 0 ≤ j → j < i → (rd_T46 l j).f1 ≤ m1) →
      ∃ r0 r1, Ev (fun k => api_Point_27_at_28.l0 k l i m0 m1) (r0, r1) ∧ IsMax r1 l := by
    refine count_up 1 (l.length : Int) _ ?_ ?_
    · intro m0 m1 ⟨j, j0, j1, j2⟩ hm
      exact ⟨m0, m1, Ev.step (fun k => api_Point_27_at_28.l0.eq_2 ..) (evn (by omega) (Ev.now _)), ⟨j, j0, j1, j2⟩, hm⟩
    · intro i h0 h1 ih m0 m1 ⟨j, j0, j1, j2⟩ hm
      have hi := (ha i (by omega) h1).2
      have hj := (ha j j0 (by omega)).2
      unfold LenP at hi hj
      have w : wrap64 ((rd_T46 l i).f1 - m1) = (rd_T46 l i).f1 - m1 := w64 (by omega) (by omega)
      have hf : ∀ q0 q1 : Int, spilelaw09_CaskFinds_1.f q0 (rd_T46 l i).f1 q1 m1 = some ((rd_T46 l i).f1 - m1) := fun q0 q1 => congrArg some w
      by_cases c : (rd_T46 l i).f1 - m1 > 0
      · obtain ⟨r0, r1, r2, r3⟩ := ih (rd_T46 l i).f0 (rd_T46 l i).f1 ⟨i, by omega, by omega, rfl⟩ (fun q q0 q1 => by
          by_cases e : q = i
          · rw [e]; exact Int.le_refl _
          · have := hm q q0 (by omega); omega)
        rw [← w64_succ (by omega) h1 hl] at r2
        exact ⟨r0, r1, Ev.step (fun k => api_Point_27_at_28.l0.eq_2 ..) (evp h1 (evp (by omega) (evb (evc (fun _ => rfl) (hf _ _)) (evp c r2)))), r3⟩
      · obtain ⟨r0, r1, r2, r3⟩ := ih m0 m1 ⟨j, j0, by omega, j2⟩ (fun q q0 q1 => by
          by_cases e : q = i
          · rw [e]; omega
          · exact hm q q0 (by omega))
        rw [← w64_succ (by omega) h1 hl] at r2
        exact ⟨r0, r1, Ev.step (fun k => api_Point_27_at_28.l0.eq_2 ..) (evp h1 (evp (by omega) (evb (evc (fun _ => rfl) (hf _ _)) (evn c r2)))), r3⟩
  obtain ⟨r0, r1, r2, r3⟩ := key 1 (by omega) h1 (rd_T46 l 0).f0 (rd_T46 l 0).f1 ⟨0, by omega, by omega, rfl⟩ (fun j j0 j1 => by rw [show j = 0 from by omega]; exact Int.le_refl _)
  exact ⟨r0, r1, evn (by omega) (evp (by omega) r2), r3⟩
theorem named_ev (l : List S27) (hl : (l.length : Int) ≤ 9223372036854775807) (a : ByteArray) : ∃ b, Ev (fun k => api_Cask_29_at_30.f k l a) b ∧ (b = true ↔ ∃ i, 0 ≤ i ∧ i < (l.length : Int) ∧ nm (rd_T27 l i) = a.data.toList) := by
  have hf : ∀ i, spilelaw09_CaskFinds_2.f (rd_T27 l i).f0 (rd_T27 l i).f1 (rd_T27 l i).f2 (rd_T27 l i).f3 a = some ((rd_T27 l i).f0.toList == a.toList) := fun i => rfl
  obtain ⟨r, hr, h⟩ := index_ev (l.length : Int) (fun i => (rd_T27 l i).f0.toList = a.toList) (fun i k => api_Cask_52_at_30.l0 k l (l.length : Int) i a)
    (Ev.step (fun k => api_Cask_52_at_30.l0.eq_2 ..) (evn (by omega) (Ev.now _)))
    (fun i h0 h1 hq => Ev.step (fun k => api_Cask_52_at_30.l0.eq_2 ..) (evp h1 (evp h0 (evp h1 (evb (evc (fun _ => rfl) (hf i)) (evp (beq_iff_eq.2 hq) (Ev.now _)))))))
    (fun i h0 h1 hq r hr => by
      rw [← w64_succ h0 h1 hl] at hr
      exact Ev.step (fun k => api_Cask_52_at_30.l0.eq_2 ..) (evp h1 (evp h0 (evp h1 (evb (evc (fun _ => rfl) (hf i)) (evn (by simpa using hq) hr)))))) 0 (by omega) (by omega)
  refine ⟨decide (r ≥ 0), evb hr (Ev.now _), ?_⟩
  rw [decide_eq_true_eq]
  rcases h with ⟨x, _, c, d, _⟩ | ⟨x, b⟩
  · exact ⟨fun _ => ⟨r, x, c, by rw [toL, toL] at d; exact d⟩, fun _ => x⟩
  · exact ⟨fun q => by omega, fun ⟨i, i0, i1, i2⟩ => absurd (show (rd_T27 l i).f0.toList = a.toList by rw [toL, toL]; exact i2) (b i i0 i1)⟩
theorem CaskFinds : caskFindsPure := by
  intro l a hl ha
  refine Ev.rounds ?_
  obtain ⟨b, hb, hb2⟩ := few_ev l (len_le hl.1)
  have haw : Ev (fun _ : Nat => spilelaw09_awake.f) true := Ev.now _
  have jt : Ev (fun k => spilelaw09_CaskFinds.j0 k l true a) true := Ev.step (fun k => spilelaw09_CaskFinds.j0.eq_2 ..) (evp rfl (Ev.now _))
  refine evb haw (evp rfl (evb hb ?_))
  cases b with
  | false => exact evn (by decide) jt
  | true =>
    refine evp rfl ?_
    have sm := (hb2 rfl).sm
    have hz := sm.1
    by_cases c : (a.size : Int) > 70
    · exact evp c jt
    have hc := copy_ev l sm
    obtain ⟨e, e1, _, e3, _⟩ := list_both l sm
    refine evn c (evb hc (evb e1 ?_))
    by_cases z : e = 0
    case neg =>
      rw [show (e != 0) = true from bne_iff_ne.2 z]
      exact jt
    have ok := e3.1 z
    rw [show (e != 0) = false from by rw [z]; rfl]
    refine Ev.step (fun k => spilelaw09_CaskFinds.j0.eq_2 ..) (evn (by decide) (evb hc ?_))
    have key : ∀ i, 0 ≤ i → i ≤ (l.length : Int) → Ev (fun k => spilelaw09_CaskFinds.l0 k l l (l.length : Int) i a) true := by
      refine count_up 0 (l.length : Int) _ ?_ ?_
      · obtain ⟨x, f, x1, _, x3, x4⟩ := find_both l sm a
        obtain ⟨t, t1, t2⟩ := named_ev l (by omega) a
        refine Ev.step (fun k => spilelaw09_CaskFinds.l0.eq_2 ..) (evn (by omega) (evb hc (evb x1 (evb t1 ?_))))
        rcases x4 ok with ⟨i, i0, i1, i2, _, i4⟩ | ⟨n1, n2, n3⟩
        · obtain rfl : t = true := t2.2 ⟨i, i0, i1, i2⟩
          exact evp (by show (true == (f == 0)) = true; rw [i4]; rfl) (evp rfl (Ev.now _))
        · have ht : t = false := by
            rw [Bool.eq_false_iff]
            intro q
            obtain ⟨i, i0, i1, i2⟩ := t2.1 q
            exact n1 i i0 i1 i2
          subst ht
          subst n2
          subst n3
          exact evp rfl (evn (by decide) (evp rfl (evb ((same27_ev none27 none27 x3).1 rfl) (Ev.now _))))
      · intro i h0 h1 ih
        have hm := rd27_mem h0 h1
        have okc := ok.2.1 _ hm
        have sc := sm.2 _ hm
        have hp := okc.2.2.2.2
        have hp1 := hp.1
        have hp2 := hp.2.1
        obtain ⟨x, f, x1, _, x3, x4⟩ := find_both l sm (rd_T27 l i).f0
        have hx : x = rd_T27 l i ∧ f = 0 := by
          rcases x4 ok with ⟨j, j0, j1, j2, j3, j4⟩ | ⟨n1, _⟩
          · have hij : j = i := by
              rcases Int.lt_trichotomy j i with q | q | q
              · exact absurd j2.symm (ok.2.2 i h0 h1 j j0 q)
              · exact q
              · exact absurd j2 (ok.2.2 j j0 j1 i h0 q)
            subst hij
            exact ⟨j3, j4⟩
          · exact absurd rfl (n1 i h0 h1)
        obtain ⟨rfl, rfl⟩ := hx
        obtain ⟨d, g, d1, _, d3⟩ := depth_both _ sc
        obtain ⟨rfl, dl, ds⟩ := d3 okc
        have w : wrap64 (((rd_T27 l i).f2.length : Int) - 1) = ((rd_T27 l i).f2.length : Int) - 1 := w64 (by omega) (by omega)
        rw [← w64_succ h0 h1 (by omega)] at ih
        have hs := (same27_ev (rd_T27 l i) (rd_T27 l i) x3).1 rfl
        refine Ev.step (fun k => spilelaw09_CaskFinds.l0.eq_2 ..) (evp h1 (evp h0 (evp h1 (evn (by omega) (evb hc (evb x1 (evb d1 ?_)))))))
        rw [w]
        refine evp (by omega) (evp (by omega) ?_)
        by_cases q : (rd_T27 l i).f1 = 1
        · obtain ⟨v, v1, v2⟩ := dl q
          obtain ⟨m0, m1, m2, m3⟩ := max_ev (rd_T27 l i).f2 (by omega) (by omega) hp.2.2.1
          obtain rfl := v1.uniq m3
          exact evp q (evb m2 (evp rfl (evp rfl (evb hs (evp rfl (evp v2 ih))))))
        · exact evn q (evp rfl (evp rfl (evb hs (evp rfl (evp (ds q) ih)))))
    exact key 0 (by omega) (by omega)
end Go.Proofs.YtnhmlneebnkjcaaDoor.Pure
namespace Go.Proofs.YtnhmlneebnkjcaaDoor.X
open Go
variable {H : Type} {enc : TypeId × Value → H}
theorem wrap_shaped {a : Assume} {C : Checked} {os : Os} {f : FuncId} {fn : Func} {s : ChangeSpec} {conds : List PathCond} {apart fresh handsOn again : Bool} {X : World → Array Value → Prop}
    (hX : ∀ (w w' : World) (args : Array Value), w.heap = w'.heap → X w args → X w' args)
    (own : ownKnob C.prog.godebug = none) (started : os.Started) (noInit : C.prog.inits.idxOf? f = none) (hfn : C.prog.funcs[f]? = some fn)
    (witness : ∃ (w : World) (tape : Tape) (i : Input), w.os = os ∧ (w.forCall tape i).Shaped C.prog ∧ i.vars = [] ∧ Input.okWide C.prog (w.forCall tape i) .any w.heap.size f i ∧
      ((s.pre enc C.prog fn conds apart (w.forCall tape i).memory i.args ∧ X (w.forCall tape i).memory i.args) ∧ sizedMet enc C.prog fn (OpenSpec.ofChange s) apart (w.forCall tape i).memory i.args) ∧ a.holds C.prog (lone (Frame.enter C.prog f i.args .normal) [] (w.forCall tape i)))
    (walk : ∀ (W : World) (base : Nat) (args : Array Value) (ds gs : List (DataW H)) (before : List MemPlace),
      (∀ (j : Nat) t v, fn.params[j]? = some t → args[j]? = some v → Value.okWide C.prog W .any base t v) →
      DataW.Whole enc C.prog fn.params.toList s.vars apart W args.toList ds gs before → X W args → W.ShapedOpen C.prog →
      Calls C.prog f args W fun e W' => ∃ v, e = .returned v ∧ s.post enc C.prog fn apart fresh handsOn again W args v W') :
    ReturnsInHanded a C os f .any (fun w args => (s.pre enc C.prog fn conds apart w args ∧ X w args) ∧ sizedMet enc C.prog fn (OpenSpec.ofChange s) apart w args) (s.post enc C.prog fn apart fresh handsOn again) := by
  refine returnsInHanded_of_calls own started noInit witness ?_
  intro w tape i _ hsh _ hok hpre _
  obtain ⟨_, _, _, fn', hfn', _, _, _, _, hval⟩ := hok
  obtain rfl : fn' = fn := Option.some.inj (hfn'.symm.trans hfn)
  obtain ⟨⟨⟨ds, gs, before, hw, _⟩, hx⟩, _⟩ := hpre
  refine (walk (w.forCall tape i) w.heap.size i.args ds gs before hval (DataW.Whole.of_heap (w' := w.forCall tape i) (by rfl) hw) (hX _ _ _ (by rfl) hx) hsh).mono fun e W' ⟨v, he, hp⟩ => ?_
  subst he
  exact ChangeSpec.post_blind hp
end Go.Proofs.YtnhmlneebnkjcaaDoor.X
namespace Go.Proofs.YtnhmlneebnkjcaaDoor.caskFinds
open Go Go.ChangeShapes Go.WideShapes Go.ChangeAt Go.RowKit
open Go.ChangeMaps (open_string shut_string)
open Go.Proofs.YtnhmlneebnkjcaaDoorW.PrintWords Go.Proofs.YtnhmlneebnkjcaaDoor.O Go.Proofs.YtnhmlneebnkjcaaDoor.Opn Go.Proofs.YtnhmlneebnkjcaaDoor.Pr Go.Proofs.YtnhmlneebnkjcaaDoor.X
theorem own : ownKnob Tryd.prog.godebug = none := by kernel_rfl
theorem laidOut : laidOutB Tryd.prog = true := by kernel_rfl
abbrev laidL : List (String × DataW Unit) := [("math/bits.deBruijn32tab", Rows.laid_math_bits_deBruijn32tab), ("math/bits.deBruijn64tab", Rows.laid_math_bits_deBruijn64tab), ("internal/strconv.uint64pow10", Rows.laid_internal_strconv_uint64pow10), ("unicode/utf8.acceptRanges", Rows.laid_unicode_utf8_acceptRanges), ("unicode/utf8.first", Rows.laid_unicode_utf8_first)]
set_option maxRecDepth 100000 in
theorem lifted (os : Os) (started : os.Started) (H : Type) (enc : TypeId × Value → H) :
    ReturnsInHanded {} Tryd.checked os 9 .any (fun w args => (Rows.caskFindsSpec.pre enc Tryd.prog Tryd.f9 [] false w args ∧ laidMetH Tryd.prog laidL w) ∧ sizedMet enc Tryd.prog Tryd.f9 (OpenSpec.ofChange Rows.caskFindsSpec) false w args)
      (Rows.caskFindsSpec.post enc Tryd.prog Tryd.f9 false true false false) := by
  refine wrap_shaped (C := Tryd.checked) (X := (fun w _ => laidMetH Tryd.prog laidL w)) (fun _ _ _ hh h => h.of_heap hh) own started (by kernel_rfl) Tryd.func9
    (ChangeSpec.witness_shaped (enc := enc) (C := Tryd.checked) (os := os) (X := (fun w _ => laidMetH Tryd.prog laidL w)) false (World.laidAll Tryd.prog os laidL) #[.slice none 0 0, .string ByteArray.empty] 8 (World.laidAll_os _ _ _) (World.shaped_of_ZipB (by kernel_rfl) (by kernel_rfl)) (by kernel_rfl) (by kernel_rfl) (by kernel_rfl) (by rw [MakeChecks.laidMetH_plain _ _ _ (by kernel_rfl)]; exact laidMet_laidAll _ (by kernel_rfl) (by kernel_rfl))) ?_
  intro W base args ds gs before hval0 hW hL hsh
  have hval : ∀ (j : Nat) t v, Tryd.f9.params[j]? = some t → args[j]? = some v → Value.okWide Tryd.prog W .any base t v := hval0
  have hW' := hW
  obtain ⟨p, q, hA0, hV, rfl, hfz, hnd⟩ := hW
  have hA : DataW.TrodAll enc Tryd.prog W 0 (fun _ => true) true Tryd.f9.params.toList args.toList ds p := hA0
  rw [Tryd.params9] at hA hval
  obtain ⟨v0, vs0, d0, ds0, p0, q0, hargs, rfl, rfl, h0, r0⟩ := trodAll_cons hA
  obtain ⟨v1, vs1, d1, ds1, p1, q1, rfl, rfl, rfl, h1, r1⟩ := trodAll_cons r0
  obtain ⟨rfl, rfl, rfl⟩ := trodAll_nil r1
  obtain rfl : args = #[v0, v1] := by cases args; simp_all
  obtain ⟨rfl, rfl⟩ := trodVars_none hV
  obtain ⟨a0_, len0_, cap0_, rfl⟩ := okWide_slice Tryd.underlying22 (hval 0 22 v0 rfl rfl)
  have k0 := h0
  have lt0 : ∀ x ∈ p0, x.block < W.heap.size := by obtain ⟨m, hm⟩ := k0; exact DataW.trod_lt m _ _ _ hm
  obtain ⟨l0, K0, ok0⟩ : ∃ x, (Kd.slice 27 k27).K W x [.slice a0_ len0_ cap0_] ∧ (x.length ≤ maxLen ∧ ∀ x0_, x0_ ∈ x → ok27 x0_) := by
    obtain ⟨fuel, hf⟩ := h0
    exact opens22.2 _ _ _ _ _ _ _ _ _ hf
  obtain ⟨A0, c0, e0, g0, hr0⟩ := K0
  simp only [List.cons.injEq, Value.slice.injEq, and_true] at e0
  obtain ⟨rfl, rfl, rfl⟩ := e0
  obtain ⟨a1, rfl, rfl, rfl, y1⟩ := open_string Tryd.underlying9 (hval 1 9 v1 rfl rfl) h1
  clear hA0 hval0
  obtain ⟨k, hp⟩ := Pure.CaskFinds l0 a1 ok0 y1
  have hG : GI W := GI.of_laid laidL (by simp [laidL]) hL hsh
  refine (spilelaw09_CaskFinds.calls k _ _ l0 a1 true W hr0 g0 hG rfl hp).mono fun e W' ⟨he, bel⟩ => ?_
  subst he
  exact ⟨_, rfl, _, _, _, [], _, [], hW', trodAll_mk1 (shut_bool Tryd.underlying4 _), (trodAll_cons_mk (Below.trod laidOut (by kernel_rfl) (of_decide_eq_true (by kernel_rfl)) k0 bel lt0) (trodAll_cons_mk (shut_string Tryd.underlying9 y1) trodAll_mk0)), rfl, bel.frame _, fun h => by cases h⟩
theorem holds : Rows.CaskFindsSaid :=
  OpenClaim.holds_of_wide 9 Tryd.f9 rfl rfl rfl rfl rfl rfl rfl ⟨rfl, rfl, rfl, rfl, rfl⟩ rfl rfl rfl rfl rfl (by kernel_rfl) Tryd.func9 (by kernel_rfl)
    (of_decide_eq_true (by kernel_rfl)) (by unfold Func.isWrapper; first | (rw [if_pos (by decide +kernel)]; kernel_rfl) | (rw [if_neg (by decide +kernel)]; exact ⟨rfl, rfl⟩))
    (fun os started H enc _ => lifted os started H enc)
theorem card : Rows.CaskFindsCardSaid :=
  Claim7.holds_tied_plain_at .later [] [.data, .data, .data, .data, .pinned] true (true, "a11ba1a8ff04589e84bf96506875e99c97846a736c580a21adffadd5e088390c") false
    holds (fun _ h => by cases h) (by kernel_rfl) (fun _ h => by cases h) caskFinds_row_tie rfl ⟨rfl, rfl⟩ (by kernel_rfl) rfl
    (fun f fn hf hfn => by
      obtain rfl : f = 9 := Option.some.inj ((show Tryd.prog.funcNamed "spile/spilelaw09.CaskFinds" = some 9 by kernel_rfl).symm.trans hf) |>.symm
      obtain rfl : fn = Tryd.f9 := (Option.some.inj (Tryd.func9.symm.trans hfn)).symm
      exact ⟨by kernel_rfl, fun j t ht => by
        rw [Tryd.params9] at ht
        have hm : t ∈ [22, 9] := by simpa using Array.mem_of_getElem? ht
        have hall : ([22, 9].all fun u => !Tryd.prog.wantsStandIn u) = true := by kernel_rfl
        exact (show Tryd.prog.wantsStandIn t = false by simpa using List.all_eq_true.1 hall t hm)⟩)
    (by kernel_rfl)
end Go.Proofs.YtnhmlneebnkjcaaDoor.caskFinds
namespace Go.Proofs.YtnhmlneebnkjcaaDoor
/-- The card, under a short name, for the claim. -/
theorem caskFinds_holds : Rows.CaskFindsCardSaid := caskFinds.card
#print axioms caskFinds_holds
end Go.Proofs.YtnhmlneebnkjcaaDoor
