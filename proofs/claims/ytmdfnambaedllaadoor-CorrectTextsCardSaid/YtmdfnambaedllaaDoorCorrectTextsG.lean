/-
The law zGF returns true for every input that can be read as data, and leaves its arguments as they were: the row, and the card that ties the listed variables to the program's text.
No condition of its own beyond those that the given row prints.
-/
import Derived.HandedShaped
import Derived.Handed
import Derived.Test.YtmdfnambaedllaaDoorCards
import Derived.Test.YtmdfnambaedllaaDoorTie
import Derived.ProofKit
import Derived.OpenShut
import Derived.ShutString
import Derived.ChangeOld
import Derived.SizedLaws
import Derived.LaidMore
import Derived.Lay
import Derived.MakeChecks
import Derived.SevenTiedAt
import Derived.LaidSub
import Derived.LaidOnce
import Derived.Stop.Joined
import Derived.Stop.LaidErr
import Derived.Test.YtmdfnambaedllaaDoorCorrectTextsF
set_option linter.unusedVariables false
set_option linter.unusedSimpArgs false
namespace Go.Proofs.YtmdfnambaedllaaDoor.Pure
open Go Go.RowKit Go.Proofs.YtmdfnambaedllaaDoorW.PrintWords Go.Proofs.YtmdfnambaedllaaDoorW.PrintLast Go.Proofs.YtmdfnambaedllaaDoorW.PrintMore Go.Proofs.YtmdfnambaedllaaDoor.Pr Go.Proofs.YtmdfnambaedllaaDoor.PL
theorem zAL {g : Nat → Option Int} {n : Int} {Q : Int → Prop}
    (h : ∃ r, Ev g r ∧ ((0 ≤ r ∧ 0 ≤ r ∧ r < n ∧ Q r ∧ ∀ j, 0 ≤ j → j < r → ¬ Q j) ∨ (r = -1 ∧ ∀ j, 0 ≤ j → j < n → ¬ Q j))) :
    EvB (fun k => (g k).bind fun t => some (decide (t ≥ 0))) (∃ j, 0 ≤ j ∧ j < n ∧ Q j) := by
  obtain ⟨r, hr, ⟨a, _, b, c, _⟩ | ⟨rfl, a⟩⟩ := h
  · exact ⟨fun _ => Ev.bind hr (evr (by simp [a])), fun hn => absurd ⟨r, a, b, c⟩ hn⟩
  · exact ⟨fun ⟨j, h0, h1, h2⟩ => absurd h2 (a j h0 h1), fun _ => Ev.bind hr (evr (by simp))⟩
abbrev Out (lo hi x : Int) : Prop := x < lo ∨ hi < x
theorem zMM (x : Int) : vZ.f x = some (decide (Out 0 10000 x)) := by
  unfold vZ.f Out
  by_cases h : x < 0
  · rw [if_pos h]; simp [h]
  · rw [if_neg h]; simp [h]
theorem zWR (x : Int) : uN.f x = some (decide (Out (-400) 600 x)) := by
  unfold uN.f Out
  by_cases h : x < -400
  · rw [if_pos h]; simp [h]
  · rw [if_neg h]; simp [h]
theorem any27 (l : List Int) (hl : l.length ≤ maxLen) : EvB (fun k => wY.f k l) (∃ j, 0 ≤ j ∧ j < (l.length : Int) ∧ Out 0 10000 (rd l j)) := by
  have hm := zCV hl
  refine zAL (g := fun k => wA.l0 k l (l.length : Int) 0) (zKH (l.length : Int) (fun j => Out 0 10000 (rd l j)) (fun i k => wA.l0 k l (l.length : Int) i) ?_ ?_ ?_ 0 (by omega) (by omega))
  · exact Ev.step (fun k => wA.l0.eq_2 ..) (evn (by omega) (Ev.now _))
  · intro i h0 h1 hq
    refine Ev.step (fun k => wA.l0.eq_2 ..) (evp h1 (evp h0 (evp h1 (evb (evc (fun _ => rfl) (zMM _)) ?_))))
    rw [decide_eq_true hq]
    exact evp rfl (Ev.now _)
  · intro i h0 h1 hq r hr
    refine Ev.step (fun k => wA.l0.eq_2 ..) (evp h1 (evp h0 (evp h1 (evb (evc (fun _ => rfl) (zMM _)) ?_))))
    rw [decide_eq_false hq, jI h0 h1 hm]
    exact evn (by simp) hr
theorem any37 (l : List Int) (hl : l.length ≤ maxLen) : EvB (fun k => qB.f k l) (∃ j, 0 ≤ j ∧ j < (l.length : Int) ∧ Out (-400) 600 (rd l j)) := by
  have hm := zCV hl
  refine zAL (g := fun k => zZ.l0 k l (l.length : Int) 0) (zKH (l.length : Int) (fun j => Out (-400) 600 (rd l j)) (fun i k => zZ.l0 k l (l.length : Int) i) ?_ ?_ ?_ 0 (by omega) (by omega))
  · exact Ev.step (fun k => zZ.l0.eq_2 ..) (evn (by omega) (Ev.now _))
  · intro i h0 h1 hq
    refine Ev.step (fun k => zZ.l0.eq_2 ..) (evp h1 (evp h0 (evp h1 (evb (evc (fun _ => rfl) (zWR _)) ?_))))
    rw [decide_eq_true hq]
    exact evp rfl (Ev.now _)
  · intro i h0 h1 hq r hr
    refine Ev.step (fun k => zZ.l0.eq_2 ..) (evp h1 (evp h0 (evp h1 (evb (evc (fun _ => rfl) (zWR _)) ?_))))
    rw [decide_eq_false hq, jI h0 h1 hm]
    exact evn (by simp) hr
theorem any35 (ts : List (List Int)) (m : Int) (hl : ts.length ≤ maxLen) : EvB (fun k => qH.f k ts m) (∃ j, 0 ≤ j ∧ j < (ts.length : Int) ∧ ¬ ((zW ts j).length : Int) = m) := by
  have hm := zCV hl
  refine zAL (g := fun k => wC.l0 k ts (ts.length : Int) 0 m) (zKH (ts.length : Int) (fun j => ¬ ((zW ts j).length : Int) = m) (fun i k => wC.l0 k ts (ts.length : Int) i m) ?_ ?_ ?_ 0 (by omega) (by omega))
  · exact Ev.step (fun k => wC.l0.eq_2 ..) (evn (by omega) (Ev.now _))
  · intro i h0 h1 hq
    refine Ev.step (fun k => wC.l0.eq_2 ..) (evp h1 (evp h0 (evp h1 (evb (a := true) (evc (fun _ => rfl) (by unfold uO.f; simpa using hq)) ?_))))
    exact evp rfl (Ev.now _)
  · intro i h0 h1 hq r hr
    refine Ev.step (fun k => wC.l0.eq_2 ..) (evp h1 (evp h0 (evp h1 (evb (a := false) (evc (fun _ => rfl) (by unfold uO.f; simpa using hq)) ?_))))
    rw [jI h0 h1 hm]
    exact evn (by simp) hr
def zKA (l : List Int) : Prop := ∃ j, 0 ≤ j ∧ j < (l.length : Int) ∧ Out 0 10000 (rd l j)
theorem any38 (ts : List (List Int)) (hl : ts.length ≤ maxLen) (hr : ∀ i, 0 ≤ i → i < (ts.length : Int) → (zW ts i).length ≤ maxLen) :
    EvB (fun k => vL.f k ts) (∃ i, 0 ≤ i ∧ i < (ts.length : Int) ∧ zKA (zW ts i)) := by
  have hm := zCV hl
  have row : ∀ i, 0 ≤ i → i < (ts.length : Int) → EvB (fun k => kO.f k (zW ts i)) (zKA (zW ts i)) := fun i h0 h1 => by
    have h := any27 (zW ts i) (hr i h0 h1)
    exact h.map (fun p => ⟨fun _ => Ev.now _, fun q => absurd p q⟩) (fun p => ⟨fun q => absurd q p, fun _ => Ev.now _⟩)
  refine zAL (g := fun k => wB.l0 k ts (ts.length : Int) 0) (zKH (ts.length : Int) (fun j => zKA (zW ts j)) (fun i k => wB.l0 k ts (ts.length : Int) i) ?_ ?_ ?_ 0 (by omega) (by omega))
  · exact Ev.step (fun k => wB.l0.eq_2 ..) (evn (by omega) (Ev.now _))
  · intro i h0 h1 hq
    exact Ev.step (fun k => wB.l0.eq_2 ..) (evp h1 (evp h0 (evp h1 (evb ((row i h0 h1).1 hq) (evp rfl (Ev.now _))))))
  · intro i h0 h1 hq r hr
    refine Ev.step (fun k => wB.l0.eq_2 ..) (evp h1 (evp h0 (evp h1 (evb ((row i h0 h1).2 hq) ?_))))
    rw [jI h0 h1 hm]
    exact evn (by simp) hr
/-- The numbers rise. -/
def Ris (l : List Int) : Prop := ∀ j, 0 ≤ j → j < (l.length : Int) - 1 → rd l j < rd l (j + 1)
theorem zQE (l : List Int) (hl : l.length ≤ maxLen) (h2 : 2 ≤ l.length) : EvB (fun k => vI.f k l) (Ris l) := by
  have hm := zCV hl
  have e : wrap64 ((l.length : Int) - 1) = (l.length : Int) - 1 := w64 (by omega) (by omega)
  have h := zSZ 0 ((l.length : Int) - 1) (fun j => rd l j < rd l (j + 1)) (fun i k => vI.l0 k l ((l.length : Int) - 1) i) ?_ ?_ ?_ 0 (by omega) (by omega)
  · unfold vI.f
    rw [e]
    exact h
  · exact Ev.step (fun k => vI.l0.eq_2 ..) (evn (by omega) (Ev.now _))
  · intro i h0 h1 hq
    have e1 := jI h0 h1 (by omega)
    refine Ev.step (fun k => vI.l0.eq_2 ..) ?_
    rw [e1]
    exact evp h1 (evp h0 (evp (by omega) (evp (by omega) (evp (by omega) (evp (by omega) (Ev.now _))))))
  · intro i h0 h1 hq b hb
    have e1 := jI h0 h1 (by omega)
    refine Ev.step (fun k => vI.l0.eq_2 ..) ?_
    rw [e1]
    exact evp h1 (evp h0 (evp (by omega) (evp (by omega) (evp (by omega) (evn (by omega) hb)))))
theorem zTP (l : List Int) (hl : l.length ≤ maxLen) (h2 : 2 ≤ l.length) : EvB (fun k => vC.f k l) (Ris l) := by
  have hm := zCV hl
  have h := zSZ 1 (l.length : Int) (fun j => rd l (j - 1) < rd l j) (fun i k => vC.l0 k l i) ?_ ?_ ?_ 1 (by omega) (by omega)
  · refine EvB.iff (P := ∀ j, 1 ≤ j → j < (l.length : Int) → rd l (j - 1) < rd l j) h ⟨fun h j h0 h1 => ?_, fun h j h0 h1 => ?_⟩
    · have := h (j + 1) (by omega) (by omega)
      rwa [show j + 1 - 1 = j from by omega] at this
    · have := h (j - 1) (by omega) (by omega)
      rwa [show j - 1 + 1 = j from by omega] at this
  · exact Ev.step (fun k => vC.l0.eq_2 ..) (evn (by omega) (Ev.now _))
  · intro i h0 h1 hq
    have e1 : wrap64 (i - 1) = i - 1 := zGI (by omega) (by omega) hm
    refine Ev.step (fun k => vC.l0.eq_2 ..) ?_
    rw [e1]
    exact evp h1 (evp (by omega) (evp (by omega) (evp (by omega) (evp (by omega) (Ev.now _)))))
  · intro i h0 h1 hq b hb
    have e1 : wrap64 (i - 1) = i - 1 := zGI (by omega) (by omega) hm
    have e2 := jI (show 0 ≤ i by omega) h1 hm
    refine Ev.step (fun k => vC.l0.eq_2 ..) ?_
    rw [e1, e2]
    exact evp h1 (evp (by omega) (evp (by omega) (evp (by omega) (evn (by omega) hb))))
theorem zKP (l : List Int) (lo hi : Int) (hl : l.length ≤ maxLen) : EvB (fun k => wH.f k l lo hi) (¬ ∃ j, 0 ≤ j ∧ j < (l.length : Int) ∧ Out lo hi (rd l j)) := by
  have hm := zCV hl
  have h := zSZ 0 (l.length : Int) (fun j => ¬ Out lo hi (rd l j)) (fun i k => wH.l0 k l lo hi i) ?_ ?_ ?_ 0 (by omega) (by omega)
  · exact EvB.iff (P := ∀ j, 0 ≤ j → j < (l.length : Int) → ¬ Out lo hi (rd l j)) h ⟨fun h ⟨j, h0, h1, h2⟩ => h j h0 h1 h2, fun h j h0 h1 h2 => h ⟨j, h0, h1, h2⟩⟩
  · exact Ev.step (fun k => wH.l0.eq_2 ..) (evn (by omega) (Ev.now _))
  · intro i h0 h1 hq
    refine Ev.step (fun k => wH.l0.eq_2 ..) (evp h1 (evp h0 ?_))
    by_cases h : rd l i < lo
    · exact evp h (Ev.now _)
    · exact evn h (evp (by simp only [Out] at hq; omega) (Ev.now _))
  · intro i h0 h1 hq b hb
    simp only [Out] at hq
    refine Ev.step (fun k => wH.l0.eq_2 ..) (evp h1 (evp h0 (evn (by omega) (evn (by omega) ?_))))
    rw [jI h0 h1 hm]
    exact hb
/-- Two numbers of a table contradict each other at a place. -/
def Conf (ts : List (List Int)) (i j : Int) : Prop := (0 < j ∧ rd (zW ts i) j < rd (zW ts i) (j - 1)) ∨ (0 < i ∧ rd (zW ts (i - 1)) j < rd (zW ts i) j)
def Rect (ts : List (List Int)) (m : Int) : Prop := ∀ i, 0 ≤ i → i < (ts.length : Int) → ((zW ts i).length : Int) = m
/-- A conflict at a place or behind it. -/
def zDG (ts : List (List Int)) (m i j : Int) : Prop := ∃ i2 j2, ((i2 = i ∧ j ≤ j2) ∨ i < i2) ∧ 0 ≤ j2 ∧ j2 < m ∧ i2 < (ts.length : Int) ∧ Conf ts i2 j2
def Says (g : Nat → Option Int) (P : Prop) : Prop := (P → Ev g 18) ∧ (¬ P → Ev g 0)
theorem zEB {g h : Nat → Option Int} {P Q : Prop} (hs : Says h Q) (e : P ↔ Q) (hg : ∀ r, Ev h r → Ev g r) : Says g P := ⟨fun p => hg _ (hs.1 (e.1 p)), fun p => hg _ (hs.2 (fun q => p (e.2 q)))⟩
theorem zXY {ts : List (List Int)} {m i : Int} : zDG ts m i m ↔ zDG ts m (i + 1) 0 := by
  constructor
  · rintro ⟨i2, j2, h | h, h0, h1, h2, hc⟩
    · omega
    · exact ⟨i2, j2, by omega, h0, h1, h2, hc⟩
  · rintro ⟨i2, j2, h, h0, h1, h2, hc⟩
    exact ⟨i2, j2, by omega, h0, h1, h2, hc⟩
theorem zTY {ts : List (List Int)} {m i j : Int} (h : ¬ Conf ts i j) : zDG ts m i j ↔ zDG ts m i (j + 1) := by
  constructor
  · rintro ⟨i2, j2, h | h', h0, h1, h2, hc⟩
    · by_cases e : j2 = j
      · obtain ⟨rfl, _⟩ := h
        subst e
        exact absurd hc ‹_›
      · exact ⟨i2, j2, by omega, h0, h1, h2, hc⟩
    · exact ⟨i2, j2, by omega, h0, h1, h2, hc⟩
  · rintro ⟨i2, j2, h, h0, h1, h2, hc⟩
    exact ⟨i2, j2, by omega, h0, h1, h2, hc⟩
theorem zTX {ts : List (List Int)} {m : Int} : ¬ zDG ts m (ts.length : Int) 0 := by
  rintro ⟨i2, j2, h, h0, h1, h2, hc⟩
  omega
theorem zKI {ts : List (List Int)} {m i j : Int} (h0 : 0 ≤ j) (h1 : j < m) (h2 : i < (ts.length : Int)) (h : Conf ts i j) : zDG ts m i j := ⟨i, j, .inl ⟨rfl, Int.le_refl _⟩, h0, h1, h2, h⟩
theorem zXQ (hs as_ : List Int) (ts : List (List Int)) (m : Int) (hr : Rect ts m) (hl : ts.length ≤ maxLen) (hm0 : 0 ≤ m) (hm1 : m ≤ 9223372036854775807) :
    ∀ i, 0 ≤ i → i ≤ (ts.length : Int) → Says (fun k => zE.l0 k ts (ts.length : Int) i hs as_ ts) (zDG ts m i 0) := by
  have hm := zCV hl
  refine uA 0 (ts.length : Int) _ ⟨fun h => absurd h zTX, fun _ => Ev.step (fun k => zE.l0.eq_2 ..) (evn (by omega) (Ev.now _))⟩ ?_
  intro i h0 h1 ih
  have hrow := hr i h0 h1
  have inner := uA 0 m (fun j => Says (fun k => zE.l1 k i (zW ts i) ts (ts.length : Int) i (zW ts i) ((zW ts i).length : Int) j hs as_ ts) (zDG ts m i j)) ?_ ?_ 0 (by omega) hm0
  · exact zEB inner Iff.rfl (fun r h => Ev.step (fun k => zE.l0.eq_2 ..) (evp h1 (evp h0 (evp h1 h))))
  · refine zEB ih zXY (fun r h => Ev.step (fun k => zE.l1.eq_2 ..) (evn (by omega) ?_))
    rw [jI h0 h1 hm]
    exact h
  · intro j j0 j1 jh
    have e1 : wrap64 (j - 1) = j - 1 := zGI (by omega) (by omega) hm1
    have e2 := jI j0 j1 hm1
    have e3 : wrap64 (i - 1) = i - 1 := zGI (by omega) (by omega) hm
    by_cases c1 : 0 < j ∧ rd (zW ts i) j < rd (zW ts i) (j - 1)
    · refine ⟨fun _ => Ev.step (fun k => zE.l1.eq_2 ..) ?_, fun h => absurd (zKI j0 j1 h1 (.inl c1)) h⟩
      rw [e1, e2, e3]
      exact evp (by omega) (evp j0 (evp (by omega) (evp c1.1 (evp (by omega) (evp (by omega) (evp c1.2 (Ev.now _)))))))
    · by_cases c2 : 0 < i ∧ rd (zW ts (i - 1)) j < rd (zW ts i) j
      · refine ⟨fun _ => Ev.step (fun k => zE.l1.eq_2 ..) ?_, fun h => absurd (zKI j0 j1 h1 (.inr c2)) h⟩
        have hp := hr (i - 1) (by omega) (by omega)
        have fin : Ev (fun k => if i > 0 then (if 0 ≤ i - 1 then (if i - 1 < (ts.length : Int) then (if j < ((zW ts (i - 1)).length : Int) then (if rd (zW ts i) j > rd (zW ts (i - 1)) j then some 18 else zE.l1 k i (zW ts i) ts (ts.length : Int) i (zW ts i) ((zW ts i).length : Int) (j + 1) hs as_ ts) else none) else none) else none) else zE.l1 k i (zW ts i) ts (ts.length : Int) i (zW ts i) ((zW ts i).length : Int) (j + 1) hs as_ ts) (18 : Int) :=
          evp c2.1 (evp (by omega) (evp (by omega) (evp (by omega) (evp c2.2 (Ev.now _)))))
        rw [e1, e2, e3]
        refine evp (by omega) (evp j0 (evp (by omega) ?_))
        by_cases jp : j > 0
        · exact evp jp (evp (by omega) (evp (by omega) (evn (fun h => c1 ⟨jp, h⟩) fin)))
        · exact evn jp fin
      · refine zEB jh (zTY (fun h => h.elim c1 c2)) (fun r h => Ev.step (fun k => zE.l1.eq_2 ..) ?_)
        have fin : Ev (fun k => if i > 0 then (if 0 ≤ i - 1 then (if i - 1 < (ts.length : Int) then (if j < ((zW ts (i - 1)).length : Int) then (if rd (zW ts i) j > rd (zW ts (i - 1)) j then some 18 else zE.l1 k i (zW ts i) ts (ts.length : Int) i (zW ts i) ((zW ts i).length : Int) (j + 1) hs as_ ts) else none) else none) else none) else zE.l1 k i (zW ts i) ts (ts.length : Int) i (zW ts i) ((zW ts i).length : Int) (j + 1) hs as_ ts) r := by
          by_cases ip : i > 0
          · have hp := hr (i - 1) (by omega) (by omega)
            exact evp ip (evp (by omega) (evp (by omega) (evp (by omega) (evn (fun h => c2 ⟨ip, h⟩) h))))
          · exact evn ip h
        rw [e1, e2, e3]
        refine evp (by omega) (evp j0 (evp (by omega) ?_))
        by_cases jp : j > 0
        · exact evp jp (evp (by omega) (evp (by omega) (evn (fun h => c1 ⟨jp, h⟩) fin)))
        · exact evn jp fin
end Go.Proofs.YtmdfnambaedllaaDoor.Pure
namespace Go.Proofs.YtmdfnambaedllaaDoor.Pure
open Go Go.RowKit Go.Proofs.YtmdfnambaedllaaDoorW.PrintWords Go.Proofs.YtmdfnambaedllaaDoorW.PrintLast Go.Proofs.YtmdfnambaedllaaDoorW.PrintMore Go.Proofs.YtmdfnambaedllaaDoor.Pr Go.Proofs.YtmdfnambaedllaaDoor.PL
theorem conf_ref (hs as_ : List Int) (ts : List (List Int)) (hr : Rect ts (as_.length : Int)) (hl : ts.length ≤ maxLen) (hla : as_.length ≤ maxLen) :
    ∀ i, 0 ≤ i → i ≤ (ts.length : Int) → Says (fun k => zF.l1 k i hs as_ ts) (zDG ts (as_.length : Int) i 0) := by
  have hm := zCV hl
  have hm1 := zCV hla
  refine uA 0 (ts.length : Int) _ ⟨fun h => absurd h zTX, fun _ => Ev.step (fun k => zF.l1.eq_2 ..) (evn (by omega) (Ev.now _))⟩ ?_
  intro i h0 h1 ih
  have hrow := hr i h0 h1
  have inner := uA 0 (as_.length : Int) (fun j => Says (fun k => zF.l2 k i j hs as_ ts) (zDG ts (as_.length : Int) i j)) ?_ ?_ 0 (by omega) (by omega)
  · exact zEB inner Iff.rfl (fun r h => Ev.step (fun k => zF.l1.eq_2 ..) (evp h1 h))
  · refine zEB ih zXY (fun r h => Ev.step (fun k => zF.l2.eq_2 ..) (evn (by omega) ?_))
    rw [jI h0 h1 hm]
    exact h
  · intro j j0 j1 jh
    have e1 : wrap64 (j - 1) = j - 1 := zGI (by omega) (by omega) hm1
    have e2 := jI j0 j1 hm1
    have e3 : wrap64 (i - 1) = i - 1 := zGI (by omega) (by omega) hm
    by_cases c1 : 0 < j ∧ rd (zW ts i) j < rd (zW ts i) (j - 1)
    · refine ⟨fun _ => Ev.step (fun k => zF.l2.eq_2 ..) ?_, fun h => absurd (zKI j0 j1 h1 (.inl c1)) h⟩
      rw [e1, e2, e3]
      exact evp j1 (evp c1.1 (evp h0 (evp h1 (evp j0 (evp (by omega) (evp (by omega) (evp (by omega) (evp c1.2 (Ev.now _)))))))))
    · by_cases c2 : 0 < i ∧ rd (zW ts (i - 1)) j < rd (zW ts i) j
      · refine ⟨fun _ => Ev.step (fun k => zF.l2.eq_2 ..) ?_, fun h => absurd (zKI j0 j1 h1 (.inr c2)) h⟩
        have hp := hr (i - 1) (by omega) (by omega)
        rw [e1, e2, e3]
        refine evp j1 ?_
        by_cases jp : j > 0
        · exact evp jp (evp h0 (evp h1 (evp j0 (evp (by omega) (evp (by omega) (evp (by omega) (evn (fun h => c1 ⟨jp, h⟩) (evp c2.1 (evp (by omega) (evp (by omega) (evp (by omega) (evp c2.2 (Ev.now _)))))))))))))
        · exact evn jp (evp c2.1 (evp h0 (evp h1 (evp j0 (evp (by omega) (evp (by omega) (evp (by omega) (evp (by omega) (evp c2.2 (Ev.now _))))))))))
      · refine zEB jh (zTY (fun h => h.elim c1 c2)) (fun r h => Ev.step (fun k => zF.l2.eq_2 ..) ?_)
        rw [e1, e2, e3]
        refine evp j1 ?_
        by_cases jp : j > 0
        · refine evp jp (evp h0 (evp h1 (evp j0 (evp (by omega) (evp (by omega) (evp (by omega) (evn (fun h => c1 ⟨jp, h⟩) ?_)))))))
          by_cases ip : i > 0
          · have hp := hr (i - 1) (by omega) (by omega)
            exact evp ip (evp (by omega) (evp (by omega) (evp (by omega) (evn (fun h => c2 ⟨ip, h⟩) h))))
          · exact evn ip h
        · refine evn jp ?_
          by_cases ip : i > 0
          · have hp := hr (i - 1) (by omega) (by omega)
            exact evp ip (evp h0 (evp h1 (evp j0 (evp (by omega) (evp (by omega) (evp (by omega) (evp (by omega) (evn (fun h => c2 ⟨ip, h⟩) h))))))))
          · exact evn ip h
theorem zMO (hs as_ : List Int) (ts : List (List Int)) (hl : ts.length ≤ maxLen) :
    (Rect ts (as_.length : Int) → Ev (fun k => zV.l0 k 0 hs as_ ts) 0) ∧ (¬ Rect ts (as_.length : Int) → Ev (fun k => zV.l0 k 0 hs as_ ts) 10) := by
  have hm := zCV hl
  have h := uA 0 (ts.length : Int) (fun i => ((∀ j, i ≤ j → j < (ts.length : Int) → ((zW ts j).length : Int) = (as_.length : Int)) → Ev (fun k => zV.l0 k i hs as_ ts) 0) ∧ (¬ (∀ j, i ≤ j → j < (ts.length : Int) → ((zW ts j).length : Int) = (as_.length : Int)) → Ev (fun k => zV.l0 k i hs as_ ts) 10)) ?_ ?_ 0 (by omega) (by omega)
  · exact h
  · exact ⟨fun _ => Ev.step (fun k => zV.l0.eq_2 ..) (evn (by omega) (Ev.now _)), fun h => absurd (fun j h1 h2 => absurd h2 (by omega)) h⟩
  · intro i h0 h1 ih
    by_cases hq : ((zW ts i).length : Int) = (as_.length : Int)
    · have go : ∀ r, Ev (fun k => zV.l0 k (i + 1) hs as_ ts) r → Ev (fun k => zV.l0 k i hs as_ ts) r := fun r h => by
        refine Ev.step (fun k => zV.l0.eq_2 ..) (evp h1 (evp h0 (evp hq ?_)))
        rw [jI h0 h1 hm]
        exact h
      refine ⟨fun h => go _ (ih.1 fun j hj hn => h j (by omega) hn), fun h => go _ (ih.2 fun h2 => h fun j hj hn => ?_)⟩
      by_cases e : j = i
      · subst e; exact hq
      · exact h2 j (by omega) hn
    · exact ⟨fun h => absurd (h i (by omega) h1) hq, fun _ => Ev.step (fun k => zV.l0.eq_2 ..) (evp h1 (evp h0 (evn hq (Ev.now _))))⟩
/-- A right correction table. -/
structure Valid (hs as_ : List Int) (ts : List (List Int)) : Prop where
  hs2 : 2 ≤ hs.length
  as2 : 2 ≤ as_.length
  hs32 : hs.length ≤ 32
  as32 : as_.length ≤ 32
  rows : ts.length = hs.length
  rect : Rect ts (as_.length : Int)
  heat : ∀ j, 0 ≤ j → j < (hs.length : Int) → -400 ≤ rd hs j ∧ rd hs j ≤ 600
  str : ∀ j, 0 ≤ j → j < (as_.length : Int) → 0 ≤ rd as_ j ∧ rd as_ j ≤ 10000
  num : ∀ i j, 0 ≤ i → i < (ts.length : Int) → 0 ≤ j → j < (as_.length : Int) → 0 ≤ rd (zW ts i) j ∧ rd (zW ts i) j ≤ 10000
  hris : Ris hs
  aris : Ris as_
  conf : ∀ i j, 0 ≤ i → i < (ts.length : Int) → 0 ≤ j → j < (as_.length : Int) → ¬ Conf ts i j
theorem zVH {ts : List (List Int)} (h : ∀ x, x ∈ ts → x.length ≤ maxLen) (i : Int) (h0 : 0 ≤ i) (h1 : i < (ts.length : Int)) : (zW ts i).length ≤ maxLen := by
  refine h _ ?_
  unfold zW
  rw [List.getD_eq_getElem?_getD, List.getElem?_eq_getElem (by omega)]
  exact List.getElem_mem _
theorem zNI (hs as_ : List Int) (ts : List (List Int)) (hh : hs.length ≤ maxLen) (ha : as_.length ≤ maxLen) (ht : ts.length ≤ maxLen) (hrl : ∀ x, x ∈ ts → x.length ≤ maxLen) :
    ∃ r, Ev (fun k => zE.f k hs as_ ts) r ∧ Ev (fun k => zF.f k hs as_ ts) r ∧ (r = 0 ↔ Valid hs as_ ts) := by
  have hrl' := zVH hrl
  by_cases a1 : (hs.length : Int) < 2 ∨ (as_.length : Int) < 2
  · refine ⟨9, ?_, ?_, ⟨fun h => absurd h (by decide), fun v => absurd a1 (by have := v.hs2; have := v.as2; omega)⟩⟩
    · unfold zE.f
      by_cases b : (hs.length : Int) < 2
      · exact evp b (Ev.step (fun k => zE.j0.eq_2 ..) (evp rfl (Ev.now _)))
      · exact evn b (Ev.step (fun k => zE.j0.eq_2 ..) (evp (by simp; omega) (Ev.now _)))
    · unfold zF.f
      refine evb (a := 9) ?_ (evn (by decide) (Ev.now _))
      unfold zV.f
      by_cases b : (hs.length : Int) < 2
      · exact evp b (Ev.step (fun k => zV.j0.eq_2 ..) (evp rfl (Ev.now _)))
      · exact evn b (Ev.step (fun k => zV.j0.eq_2 ..) (evp (by simp; omega) (Ev.now _)))
  have p1 : ∀ {r}, Ev (fun k => zE.j0 k (hs.length : Int) false hs as_ ts (as_.length : Int)) r → Ev (fun k => zE.f k hs as_ ts) r := fun {r} h => by
    unfold zE.f
    refine evn (by omega) ?_
    rw [show decide ((as_.length : Int) < 2) = false from decide_eq_false (by omega)]
    exact h
  have q1 : ∀ {r}, Ev (fun k => zV.j0 k false hs as_ ts) r → Ev (fun k => zV.f k hs as_ ts) r := fun {r} h => by
    unfold zV.f
    refine evn (by omega) ?_
    rw [show decide ((as_.length : Int) < 2) = false from decide_eq_false (by omega)]
    exact h
  have fail : ∀ {r : Int}, r ≠ 0 → Ev (fun k => zV.f k hs as_ ts) r → Ev (fun k => zF.f k hs as_ ts) r := fun {r} hr h => by
    unfold zF.f
    exact evb h (evn hr (Ev.now _))
  by_cases a2 : (hs.length : Int) > 32 ∨ (as_.length : Int) > 32
  · refine ⟨8, p1 ?_, fail (by decide) (q1 ?_), ⟨fun h => absurd h (by decide), fun v => absurd a2 (by have := v.hs32; have := v.as32; omega)⟩⟩
    · refine Ev.step (fun k => zE.j0.eq_2 ..) (evn (by decide) ?_)
      by_cases b : (hs.length : Int) > 32
      · exact evp b (Ev.step (fun k => zE.j1.eq_2 ..) (evp rfl (Ev.now _)))
      · exact evn b (Ev.step (fun k => zE.j1.eq_2 ..) (evp (by simp; omega) (Ev.now _)))
    · refine Ev.step (fun k => zV.j0.eq_2 ..) (evn (by decide) ?_)
      by_cases b : (hs.length : Int) > 32
      · exact evp b (Ev.step (fun k => zV.j1.eq_2 ..) (evp rfl (Ev.now _)))
      · exact evn b (Ev.step (fun k => zV.j1.eq_2 ..) (evp (by simp; omega) (Ev.now _)))
  have p2 : ∀ {r}, Ev (fun k => zE.j1 k (hs.length : Int) false hs as_ ts (as_.length : Int)) r → Ev (fun k => zE.f k hs as_ ts) r := fun {r} h => by
    refine p1 (Ev.step (fun k => zE.j0.eq_2 ..) (evn (by decide) (evn (by omega) ?_)))
    rw [show decide ((as_.length : Int) > 32) = false from decide_eq_false (by omega)]
    exact h
  have q2 : ∀ {r}, Ev (fun k => zV.j1 k false hs as_ ts) r → Ev (fun k => zV.f k hs as_ ts) r := fun {r} h => by
    refine q1 (Ev.step (fun k => zV.j0.eq_2 ..) (evn (by decide) (evn (by omega) ?_)))
    rw [show decide ((as_.length : Int) > 32) = false from decide_eq_false (by omega)]
    exact h
  have hn35 := any35 ts (as_.length : Int) ht
  by_cases a3 : ¬ ((ts.length : Int) = (hs.length : Int) ∧ Rect ts (as_.length : Int))
  · refine ⟨10, p2 ?_, fail (by decide) (q2 ?_), ⟨fun h => absurd h (by decide), fun v => absurd ⟨by have := v.rows; omega, v.rect⟩ a3⟩⟩
    · refine Ev.step (fun k => zE.j1.eq_2 ..) (evn (by decide) ?_)
      by_cases b : (ts.length : Int) = (hs.length : Int)
      · refine evp b (evb (hn35.1 ?_) (Ev.step (fun k => zE.j2.eq_2 ..) (evp rfl (Ev.now _))))
        exact Classical.byContradiction fun hn => a3 ⟨b, fun i h0 h1 => Classical.byContradiction fun h2 => hn ⟨i, h0, h1, h2⟩⟩
      · exact evn b (Ev.step (fun k => zE.j2.eq_2 ..) (evp rfl (Ev.now _)))
    · refine Ev.step (fun k => zV.j1.eq_2 ..) (evn (by decide) ?_)
      by_cases b : (ts.length : Int) = (hs.length : Int)
      · exact evp b ((zMO hs as_ ts ht).2 fun h => a3 ⟨b, h⟩)
      · exact evn b (Ev.now _)
  obtain ⟨b3, rect⟩ := Classical.not_not.1 a3
  have p3 : ∀ {r}, Ev (fun k => zE.j2 k false hs as_ ts) r → Ev (fun k => zE.f k hs as_ ts) r := fun {r} h =>
    p2 (Ev.step (fun k => zE.j1.eq_2 ..) (evn (by decide) (evp b3 (evb (hn35.2 fun ⟨i, h0, h1, h2⟩ => h2 (rect i h0 h1)) h))))
  have q3 : Ev (fun k => zV.f k hs as_ ts) 0 := q2 (Ev.step (fun k => zV.j1.eq_2 ..) (evn (by decide) (evp b3 ((zMO hs as_ ts ht).1 rect))))
  have h37 := any37 hs hh
  have h27 := any27 as_ ha
  have wh := zKP hs (-400) 600 hh
  have wa := zKP as_ 0 10000 ha
  by_cases a4 : (∃ j, 0 ≤ j ∧ j < (hs.length : Int) ∧ Out (-400) 600 (rd hs j)) ∨ (∃ j, 0 ≤ j ∧ j < (as_.length : Int) ∧ Out 0 10000 (rd as_ j))
  · refine ⟨2, p3 ?_, ?_, ⟨fun h => absurd h (by decide), fun v => ?_⟩⟩
    · refine Ev.step (fun k => zE.j2.eq_2 ..) (evn (by decide) ?_)
      by_cases b : ∃ j, 0 ≤ j ∧ j < (hs.length : Int) ∧ Out (-400) 600 (rd hs j)
      · exact evb (h37.1 b) (evp rfl (Ev.step (fun k => zE.j3.eq_2 ..) (evp rfl (Ev.now _))))
      · exact evb (h37.2 b) (evn (by decide) (evb (h27.1 (a4.resolve_left b)) (Ev.step (fun k => zE.j3.eq_2 ..) (evp rfl (Ev.now _)))))
    · unfold zF.f
      refine evb q3 (evp rfl ?_)
      by_cases b : ∃ j, 0 ≤ j ∧ j < (hs.length : Int) ∧ Out (-400) 600 (rd hs j)
      · exact evb (wh.2 fun h => h b) (evn (by decide) (Ev.step (fun k => zF.j0.eq_2 ..) (evp rfl (Ev.now _))))
      · exact evb (wh.1 b) (evp rfl (evb (wa.2 fun h => h (a4.resolve_left b)) (Ev.step (fun k => zF.j0.eq_2 ..) (evp rfl (Ev.now _)))))
    · rcases a4 with ⟨j, h0, h1, h2⟩ | ⟨j, h0, h1, h2⟩
      · have := v.heat j h0 h1; simp only [Out] at h2; omega
      · have := v.str j h0 h1; simp only [Out] at h2; omega
  have a4' := not_or.1 a4
  have p4 : ∀ {r}, Ev (fun k => zE.j3 k false hs as_ ts) r → Ev (fun k => zE.f k hs as_ ts) r := fun {r} h =>
    p3 (Ev.step (fun k => zE.j2.eq_2 ..) (evn (by decide) (evb (h37.2 a4'.1) (evn (by decide) (evb (h27.2 a4'.2) h)))))
  have q4 : ∀ {r}, Ev (fun k => zF.l0 k 0 hs as_ ts) r → Ev (fun k => zF.f k hs as_ ts) r := fun {r} h => by
    unfold zF.f
    exact evb q3 (evp rfl (evb (wh.1 a4'.1) (evp rfl (evb (wa.1 a4'.2) (Ev.step (fun k => zF.j0.eq_2 ..) (evn (by decide) h))))))
  have h38 := any38 ts ht hrl'
  have hm := zCV ht
  have rows : ∀ {r}, (∀ {P : Prop}, (P ↔ ∃ i, 0 ≤ i ∧ i < (ts.length : Int) ∧ zKA (zW ts i)) → (P → Ev (fun k => zF.l0 k 0 hs as_ ts) 2) ∧ (¬ P → Ev (fun k => zF.l0 k (ts.length : Int) hs as_ ts) r → Ev (fun k => zF.l0 k 0 hs as_ ts) r)) := fun {r P} hP => by
    have h := uA 0 (ts.length : Int) (fun i => ((∃ j, i ≤ j ∧ j < (ts.length : Int) ∧ zKA (zW ts j)) → Ev (fun k => zF.l0 k i hs as_ ts) 2) ∧ (¬ (∃ j, i ≤ j ∧ j < (ts.length : Int) ∧ zKA (zW ts j)) → Ev (fun k => zF.l0 k (ts.length : Int) hs as_ ts) r → Ev (fun k => zF.l0 k i hs as_ ts) r)) ?_ ?_ 0 (by omega) (by omega)
    · exact ⟨fun p => h.1 (hP.1 p), fun p => h.2 (fun q => p (hP.2 q))⟩
    · exact ⟨fun ⟨j, h0, h1, _⟩ => absurd h1 (by omega), fun _ h => h⟩
    · intro i h0 h1 ih
      have w := zKP (zW ts i) 0 10000 (hrl' i h0 h1)
      by_cases c : zKA (zW ts i)
      · exact ⟨fun _ => Ev.step (fun k => zF.l0.eq_2 ..) (evp h1 (evp h0 (evb (w.2 fun h => h c) (evn (by decide) (Ev.now _))))), fun hn => absurd ⟨i, by omega, h1, c⟩ hn⟩
      · have go : ∀ r, Ev (fun k => zF.l0 k (i + 1) hs as_ ts) r → Ev (fun k => zF.l0 k i hs as_ ts) r := fun r h => by
          refine Ev.step (fun k => zF.l0.eq_2 ..) (evp h1 (evp h0 (evb (w.1 c) (evp rfl ?_))))
          rw [jI h0 h1 hm]
          exact h
        refine ⟨fun ⟨j, g0, g1, g2⟩ => go _ (ih.1 ?_), fun hn h => go _ (ih.2 (fun ⟨j, g0, g1, g2⟩ => hn ⟨j, by omega, g1, g2⟩) h)⟩
        by_cases e : j = i
        · subst e; exact absurd g2 c
        · exact ⟨j, by omega, g1, g2⟩
  by_cases a5 : ∃ i, 0 ≤ i ∧ i < (ts.length : Int) ∧ zKA (zW ts i)
  · refine ⟨2, p4 (Ev.step (fun k => zE.j3.eq_2 ..) (evn (by decide) (evb (h38.1 a5) (evp rfl (Ev.now _))))), q4 ((rows (r := 0) Iff.rfl).1 a5), ⟨fun h => absurd h (by decide), fun v => ?_⟩⟩
    obtain ⟨i, h0, h1, j, g0, g1, g2⟩ := a5
    have := v.num i j h0 h1 g0 (by have := rect i h0 h1; omega)
    simp only [Out] at g2
    omega
  have q5 : ∀ {r}, Ev (fun k => zF.l0 k (ts.length : Int) hs as_ ts) r → Ev (fun k => zF.f k hs as_ ts) r := fun {r} h => q4 ((rows Iff.rfl).2 a5 h)
  have r1 := zQE hs hh (by omega)
  have r2 := zQE as_ ha (by omega)
  have s1 := zTP hs hh (by omega)
  have s2 := zTP as_ ha (by omega)
  by_cases a6 : ¬ (Ris hs ∧ Ris as_)
  · refine ⟨5, p4 (Ev.step (fun k => zE.j3.eq_2 ..) (evn (by decide) (evb (h38.2 a5) (evn (by decide) ?_)))), q5 (Ev.step (fun k => zF.l0.eq_2 ..) (evn (by omega) ?_)), ⟨fun h => absurd h (by decide), fun v => absurd ⟨v.hris, v.aris⟩ a6⟩⟩
    · by_cases b : Ris hs
      · exact evb (r1.1 b) (evp rfl (evb (r2.2 fun h => a6 ⟨b, h⟩) (evn (by decide) (Ev.now _))))
      · exact evb (r1.2 b) (evn (by decide) (Ev.now _))
    · by_cases b : Ris hs
      · exact evb (s1.1 b) (evp rfl (evb (s2.2 fun h => a6 ⟨b, h⟩) (Ev.step (fun k => zF.j2.eq_2 ..) (evp rfl (Ev.now _)))))
      · exact evb (s1.2 b) (evn (by decide) (Ev.step (fun k => zF.j2.eq_2 ..) (evp rfl (Ev.now _))))
  replace a6 := Classical.not_not.1 a6
  have p6 : ∀ {r}, Ev (fun k => zE.l0 k ts (ts.length : Int) 0 hs as_ ts) r → Ev (fun k => zE.f k hs as_ ts) r := fun {r} h =>
    p4 (Ev.step (fun k => zE.j3.eq_2 ..) (evn (by decide) (evb (h38.2 a5) (evn (by decide) (evb (r1.1 a6.1) (evp rfl (evb (r2.1 a6.2) (evp rfl h))))))))
  have q6 : ∀ {r}, Ev (fun k => zF.l1 k 0 hs as_ ts) r → Ev (fun k => zF.f k hs as_ ts) r := fun {r} h =>
    q5 (Ev.step (fun k => zF.l0.eq_2 ..) (evn (by omega) (evb (s1.1 a6.1) (evp rfl (evb (s2.1 a6.2) (Ev.step (fun k => zF.j2.eq_2 ..) (evn (by decide) h)))))))
  have c1 := zXQ hs as_ ts (as_.length : Int) rect ht (by omega) (by omega) 0 (by omega) (by omega)
  have c2 := conf_ref hs as_ ts rect ht ha 0 (by omega) (by omega)
  by_cases a7 : zDG ts (as_.length : Int) 0 0
  · refine ⟨18, p6 (c1.1 a7), q6 (c2.1 a7), ⟨fun h => absurd h (by decide), fun v => ?_⟩⟩
    obtain ⟨i2, j2, h, h0, h1, h2, hc⟩ := a7
    exact absurd hc (v.conf i2 j2 (by omega) h2 h0 h1)
  · refine ⟨0, p6 (c1.2 a7), q6 (c2.2 a7), ⟨fun _ => ?_, fun _ => rfl⟩⟩
    refine ⟨by omega, by omega, by omega, by omega, by omega, rect, fun j h0 h1 => ?_, fun j h0 h1 => ?_, fun i j h0 h1 g0 g1 => ?_, a6.1, a6.2, fun i j h0 h1 g0 g1 hc => a7 ⟨i, j, by omega, g0, g1, h1, hc⟩⟩
    · exact Classical.byContradiction fun h => a4'.1 ⟨j, h0, h1, by simp only [Out]; omega⟩
    · exact Classical.byContradiction fun h => a4'.2 ⟨j, h0, h1, by simp only [Out]; omega⟩
    · exact Classical.byContradiction fun h => a5 ⟨i, h0, h1, j, g0, by have := rect i h0 h1; omega, by simp only [Out]; omega⟩
end Go.Proofs.YtmdfnambaedllaaDoor.Pure
namespace Go.Proofs.YtmdfnambaedllaaDoor.PL
open Go Go.RowKit Go.Proofs.YtmdfnambaedllaaDoorW.PrintWords Go.Proofs.YtmdfnambaedllaaDoorW.PrintLast Go.Proofs.YtmdfnambaedllaaDoorW.PrintMore Go.Proofs.YtmdfnambaedllaaDoor.Pr Go.Proofs.YtmdfnambaedllaaDoor.TX Go.Proofs.YtmdfnambaedllaaDoor.X Go.Proofs.YtmdfnambaedllaaDoor.Pure
def zGO : List UInt8 := [104, 101, 97, 116]
def wApp : List UInt8 := [97, 112, 112, 97, 114, 101, 110, 116]
/-- The row with a line. -/
def lineW : List (List UInt8) → Option (Int × List Int)
  | [] => none
  | w :: ws => if w = zGO then rowP ws else none
def zDH (l : List UInt8) : Option (Int × List Int) := lineW (parts 32 l)
/-- The apparent strengths with the first line. -/
def firstW : List (List UInt8) → Option (List Int)
  | [] => none
  | w :: ws => if w = wApp then uS ws else none
def zMA (l : List UInt8) : Option (List Int) := firstW (parts 32 l)
theorem zNU {s p : List UInt8} : p ∈ parts 32 s → p.length ≤ s.length := by
  induction s generalizing p with
  | nil => intro h; simp [parts] at h; simp [h]
  | cons b r ih =>
    intro h
    rw [zEC] at h
    by_cases c : b = 32
    · rw [if_pos c] at h
      rcases List.mem_cons.1 h with h | h
      · simp [h]
      · have := ih h; simp; omega
    · rw [if_neg c] at h
      cases hp : parts 32 r with
      | nil => exact absurd hp (zGK 32 r)
      | cons q t =>
        rw [hp] at h ih
        rcases List.mem_cons.1 h with h | h
        · have := ih (p := q) (by simp); rw [h]; simp; omega
        · have := ih (p := p) (by simp [h]); simp; omega
/-- The words of a line: one ahead, and the others. -/
theorem zHK (l : List UInt8) (hl : l.length ≤ 100000) : ∃ w ws, parts 32 l = w :: ws ∧ ws.length ≤ 1000000 ∧ (∀ b, b ∈ ws → b.length ≤ 1000000) := by
  have hn := zVK l
  have hm : ∀ p, p ∈ parts 32 l → p.length ≤ l.length := fun p hp => zNU hp
  cases hp : parts 32 l with
  | nil => exact absurd hp (zGK 32 l)
  | cons w ws =>
    rw [hp] at hn hm
    refine ⟨w, ws, rfl, by simp at hn; omega, fun b hb => ?_⟩
    have := hm b (by simp [hb])
    omega
abbrev Res := List Int × List Int × List (List Int) × Int × Int
def zDD (i : Int) : Res := ([], [], [], i, 3)
theorem zNQ {s : List UInt8} (hs : s.length ≤ 70000) (hne : s ≠ []) {n : Int} {hs' ap : List Int} {ts : List (List Int)} {y : Res}
    (h : Ev (fun k => if (cut1 10 s).2.2 = true then ((strings_Split.f (ba (cut1 10 s).1) (⟨#[32]⟩ : ByteArray)).bind fun t146 => (if n = 0 then (if 1 ≤ (t146.length : Int) then ((wG.f k (t146.drop 1) 0).bind fun bt154 => (if bt154.2 = true then (if 0 < (t146.length : Int) then (if (rdOf ByteArray.empty t146 0).toList = ([97, 112, 112, 97, 114, 101, 110, 116] : List UInt8) then (zU.l0 k (ba (cut1 10 s).2.1) (wrap64 (n + 1)) hs' bt154.1 ts) else (some (([] : List Int), ([] : List Int), ([] : List (List Int)), n, 3))) else (none)) else (some (([] : List Int), ([] : List Int), ([] : List (List Int)), n, 3)))) else (none)) else (if 1 ≤ (t146.length : Int) then ((wG.f k (t146.drop 1) 1).bind fun bt164 => (if bt164.2 = true then (if 0 < (t146.length : Int) then (if (rdOf ByteArray.empty t146 0).toList = ([104, 101, 97, 116] : List UInt8) then (if (bt164.1.length : Int) = 0 then (some (([] : List Int), ([] : List Int), ([] : List (List Int)), n, 3)) else (if 0 < (bt164.1.length : Int) then ((some (([rd bt164.1 0] : List Int) : List Int)).bind fun y170 => (if hs'.length + y170.length < 17592186044416 then (if 1 ≤ (bt164.1.length : Int) then ((some (([(bt164.1.drop 1)] : List (List Int)) : List (List Int))).bind fun y181 => (if ts.length + y181.length < 5864062014805 then (zU.l0 k (ba (cut1 10 s).2.1) (wrap64 (n + 1)) (hs' ++ y170) ap (ts ++ y181)) else (none))) else (none)) else (none))) else (none))) else (some (([] : List Int), ([] : List Int), ([] : List (List Int)), n, 3))) else (none)) else (some (([] : List Int), ([] : List Int), ([] : List (List Int)), n, 3)))) else (none)))) else (some (([] : List Int), ([] : List Int), ([] : List (List Int)), n, 3))) y) :
    Ev (fun k => zU.j1 k (ba s) n true hs' ap ts) y := by
  refine Ev.step (fun k => zU.j1.eq_2 ..) (evp rfl ?_)
  have hc := cut_ev (ba s) (by rw [yC]; omega)
  rw [zBZ] at hc
  rw [hc]
  exact evb (Ev.now _) h
theorem zPO (w : List UInt8) (ws : List (List UInt8)) : rdOf ByteArray.empty ((w :: ws).map ba) 0 = ba w := rfl
theorem zMB (w : List UInt8) (ws : List (List UInt8)) : ((w :: ws).map ba).drop 1 = ws.map ba := rfl
theorem zHO (w : List UInt8) (ws : List (List UInt8)) : (((w :: ws).map ba).length : Int) = (ws.length : Int) + 1 := by simp
theorem zUD {s : List UInt8} (hs : s.length ≤ 70000) (hne : s ≠ []) {n : Int} (hn : 1 ≤ n) (hn2 : n ≤ 1000000) {hs' ap : List Int} {ts : List (List Int)} (hh : hs'.length ≤ 1000000) (ht : ts.length ≤ 1000000) :
    ((cut1 10 s).2.2 = false ∨ zDH (cut1 10 s).1 = none → Ev (fun k => zU.l0 k (ba s) n hs' ap ts) (zDD n)) ∧
    (∀ h l, (cut1 10 s).2.2 = true → zDH (cut1 10 s).1 = some (h, l) → ∀ y, Ev (fun k => zU.l0 k (ba (cut1 10 s).2.1) (n + 1) (hs' ++ [h]) ap (ts ++ [l])) y → Ev (fun k => zU.l0 k (ba s) n hs' ap ts) y) := by
  have enter : ∀ y, Ev (fun k => zU.j1 k (ba s) n true hs' ap ts) y → Ev (fun k => zU.l0 k (ba s) n hs' ap ts) y := fun y hy => by
    refine Ev.step (fun k => zU.l0.eq_2 ..) (evn (by omega) ?_)
    rw [show ((ba s).toList != ([] : List UInt8)) = true from by rw [kZ]; exact bne_iff_ne.2 hne]
    exact hy
  have hlen : (cut1 10 s).1.length ≤ 100000 := by
    cases c : (cut1 10 s).2.2 with
    | true => have := congrArg List.length (zPJ 10 s c); simp at this; omega
    | false => have := zTC 10 s c; rw [this.1]; omega
  obtain ⟨w, ws, hp, hw1, hw2⟩ := zHK _ hlen
  have hsp := zTO (ba (cut1 10 s).1) (by rw [yC]; omega)
  rw [zBZ, hp] at hsp
  have w1 : wrap64 (n + 1) = n + 1 := w64 (by omega) (by omega)
  obtain ⟨p, p1, p2, p3, p4⟩ := zVO ws hw1 hw2
  have body : ∀ y, (cut1 10 s).2.2 = true → Ev (fun k => if p.2 = true then (if w = zGO then (if (p.1.length : Int) = 0 then (some (zDD n)) else (if 0 < (p.1.length : Int) then (if hs'.length + 1 < 17592186044416 then (if 1 ≤ (p.1.length : Int) then (if ts.length + 1 < 5864062014805 then (zU.l0 k (ba (cut1 10 s).2.1) (n + 1) (hs' ++ [rd p.1 0]) ap (ts ++ [p.1.drop 1])) else none) else none) else none) else none)) else some (zDD n)) else some (zDD n)) y → Ev (fun k => zU.l0 k (ba s) n hs' ap ts) y := by
    intro y hf hy
    refine enter y (zNQ hs hne ?_)
    rw [hsp, w1]
    refine evp hf (evb (Ev.now _) (evn (by omega) ?_))
    rw [zPO, zMB, zHO, kZ]
    refine evp (by omega) (evb p1 ?_)
    by_cases c : p.2 = true
    · simp only [if_pos c] at hy
      exact evp c (evp (by omega) hy)
    · simp only [if_neg c] at hy
      exact evn c hy
  have hl : zDH (cut1 10 s).1 = if w = zGO then rowP ws else none := by unfold zDH; rw [hp]; rfl
  refine ⟨fun h => ?_, fun h l hf hx y hy => ?_⟩
  · by_cases hf : (cut1 10 s).2.2 = true
    · rcases h with h | h
      · rw [hf] at h; cases h
      · rw [hl] at h
        refine body _ hf ?_
        by_cases c : w = zGO
        · rw [if_pos c] at h
          by_cases hws : ws = []
          · rw [p2 hws]
            exact evp rfl (evp c (evp rfl (Ev.now _)))
          · exact evn (by rw [p3 hws h]; simp) (Ev.now _)
        · by_cases q : p.2 = true
          · exact evp q (evn c (Ev.now _))
          · exact evn q (Ev.now _)
    · exact enter _ (zNQ hs hne (evn hf (Ev.now _)))
  · rw [hl] at hx
    by_cases c : w = zGO
    · rw [if_pos c] at hx
      refine body y hf ?_
      rw [p4 h l hx]
      refine evp rfl (evp c (evn (by simp only [List.length_cons]; omega) (evp (by simp only [List.length_cons]; omega) (evp (by omega) (evp (by simp only [List.length_cons]; omega) (evp (by omega) ?_))))))
      exact hy
    · rw [if_neg c] at hx; cases hx
theorem all_at {all : List (List UInt8)} {l : List UInt8} {r : List (List UInt8)} {n : Nat} (h : all.drop n = l :: r) : n < all.length ∧ rdOf ByteArray.empty (all.map ba) (n : Int) = ba l ∧ all.drop (n + 1) = r := by
  have hn : n < all.length := by
    rcases Nat.lt_or_ge n all.length with h' | h'
    · exact h'
    · rw [List.drop_eq_nil_of_le h'] at h; cases h
  refine ⟨hn, ?_, ?_⟩
  · unfold rdOf
    rw [List.getD_eq_getElem?_getD, Int.toNat_natCast, List.getElem?_map]
    have e : all[n]? = some l := by
      have := congrArg (·[0]?) h
      rw [List.getElem?_drop] at this
      simpa using this
    rw [e]; rfl
  · rw [← List.drop_drop, h]; rfl
theorem zKT {e : Bool} {all : List (List UInt8)} {l : List UInt8} {r : List (List UInt8)} {n : Nat} {hs ap : List Int} {ts : List (List Int)} (hd : all.drop n = l :: r) (hlen : n + (r.length + 1) = all.length) (hl : l.length ≤ 100000) (ha : all.length ≤ 1000000) {w : List UInt8} {ws : List (List UInt8)} (hp : parts 32 l = w :: ws) {y : Res}
    (h : Ev (fun k => zL.j1 k (all.map ba) e (n : Int) ((w :: ws).map ba) (decide (r = [] ∧ e = false)) hs ap ts) y) : Ev (fun k => zL.l0 k (all.map ba) e (n : Int) hs ap ts) y := by
  obtain ⟨hn, hat, _⟩ := all_at hd
  have hw := words_ev (ba l) (by rw [yC]; omega)
  rw [zBZ, hp] at hw
  have hw1 : wrap64 (((all.map ba).length : Int) - 1) = (all.length : Int) - 1 := by rw [List.length_map, w64 (by omega) (by omega)]
  refine Ev.step (fun k => zL.l0.eq_2 ..) ?_
  rw [hat, hw1]
  refine evp (by rw [List.length_map]; omega) (evp (by omega) (evb hw ?_))
  by_cases c : (n : Int) = (all.length : Int) - 1
  · have hr : r = [] := List.eq_nil_of_length_eq_zero (by omega)
    have : decide (r = [] ∧ e = false) = !e := by cases e <;> simp [hr]
    rw [this] at h
    exact evp c h
  · have hr : r ≠ [] := fun q => c (by rw [q] at hlen; simp at hlen; omega)
    have : decide (r = [] ∧ e = false) = false := decide_eq_false (fun q => hr q.1)
    rw [this] at h
    exact evn c h
theorem zVI (e : Bool) {all : List (List UInt8)} {l : List UInt8} {r : List (List UInt8)} {n : Nat} (hn1 : 1 ≤ n) {hs ap : List Int} {ts : List (List Int)} (hd : all.drop n = l :: r) (hlen : n + (r.length + 1) = all.length) (hl : l.length ≤ 100000) (ha : all.length ≤ 1000000) (hh : hs.length ≤ 1000000) (ht : ts.length ≤ 1000000) :
    (zDH l = none ∨ (r = [] ∧ e = false) → Ev (fun k => zL.l0 k (all.map ba) e (n : Int) hs ap ts) (zDD n)) ∧
    (∀ h x, zDH l = some (h, x) → ¬ (r = [] ∧ e = false) → ∀ y, Ev (fun k => zL.l0 k (all.map ba) e ((n : Int) + 1) (hs ++ [h]) ap (ts ++ [x])) y → Ev (fun k => zL.l0 k (all.map ba) e (n : Int) hs ap ts) y) := by
  obtain ⟨w, ws, hp, hw1, hw2⟩ := zHK l hl
  have w1 : wrap64 ((n : Int) + 1) = (n : Int) + 1 := w64 (by omega) (by omega)
  have hll : zDH l = if w = zGO then rowP ws else none := by unfold zDH; rw [hp]; rfl
  by_cases last : r = [] ∧ e = false
  · refine ⟨fun _ => zKT hd hlen hl ha hp ?_, fun h x _ q => absurd last q⟩
    rw [decide_eq_true last]
    exact Ev.step (fun k => zL.j1.eq_2 ..) (evp rfl (Ev.now _))
  · have go : ∀ (b : Bool) y, (ws ≠ [] ∧ b = (w != zGO) ∨ ws = [] ∧ b = true) → Ev (fun k => zL.j2 k (all.map ba) e (n : Int) ((w :: ws).map ba) b hs ap ts) y → Ev (fun k => zL.l0 k (all.map ba) e (n : Int) hs ap ts) y := by
      intro b y hb hy
      refine zKT hd hlen hl ha hp ?_
      rw [decide_eq_false last]
      refine Ev.step (fun k => zL.j1.eq_2 ..) (evn (by simp) (evn (by omega) ?_))
      rw [zHO, zPO, kZ]
      rcases hb with ⟨h1, h2⟩ | ⟨h1, h2⟩
      · have : 1 ≤ ws.length := by cases ws with | nil => exact absurd rfl h1 | cons a b => simp
        rw [h2] at hy
        exact evn (by omega) (evp (by omega) hy)
      · rw [h2] at hy
        exact evp (by rw [h1]; decide) hy
    have stop : ∀ y, y = zDD n → Ev (fun k => zL.j2 k (all.map ba) e (n : Int) ((w :: ws).map ba) true hs ap ts) y := fun y hy => by
      subst hy; exact Ev.step (fun k => zL.j2.eq_2 ..) (evp rfl (Ev.now _))
    cases ws with
    | nil =>
      refine ⟨fun _ => go true _ (.inr ⟨rfl, rfl⟩) (stop _ rfl), fun h x q => ?_⟩
      rw [hll] at q
      by_cases c : w = zGO
      · rw [if_pos c] at q; cases q
      · rw [if_neg c] at q; cases q
    | cons b ws =>
      by_cases c : w = zGO
      case neg =>
        have hb : (w != zGO) = true := bne_iff_ne.2 c
        exact ⟨fun _ => go true _ (.inl ⟨by simp, hb.symm⟩) (stop _ rfl), fun h x q => by rw [hll, if_neg c] at q; cases q⟩
      rw [if_pos c] at hll
      have hb : (w != zGO) = false := bne_eq_false_iff_eq.2 c
      obtain ⟨p, p1, p2, p3⟩ := ref_heat b (hw2 b (by simp))
      have q1 := zKS ws (by simp at hw1; omega) (fun z hz => hw2 z (by simp [hz]))
      have body : ∀ y, Ev (fun k => if p.2 = true then (if (zBV [] (uS ws)).2 = true then (if hs.length < 17592186044416 then (if ts.length < 5864062014805 then (zL.l0 k (all.map ba) e ((n : Int) + 1) (hs ++ [p.1]) ap (ts ++ [(zBV [] (uS ws)).1])) else none) else none) else some (zDD n)) else some (zDD n)) y → Ev (fun k => zL.l0 k (all.map ba) e (n : Int) hs ap ts) y := by
        intro y hy
        refine go false y (.inl ⟨by simp, hb.symm⟩) (Ev.step (fun k => zL.j2.eq_2 ..) (evn (by simp) ?_))
        rw [zHO, w1]
        have hl2 : (((b :: ws).length : Nat) : Int) = (ws.length : Int) + 1 := by simp
        have a1 : rdOf ByteArray.empty ((w :: b :: ws).map ba) 1 = ba b := rfl
        have a2 : ((w :: b :: ws).map ba).drop 2 = ws.map ba := rfl
        rw [a1, a2]
        exact evp (by omega) (evb p1 (evp (by omega) (evb q1 hy)))
      refine ⟨fun h => body _ ?_, fun h x q _ y hy => body y ?_⟩
      · rcases h with h | h
        · rw [hll] at h
          simp only [rowP] at h
          cases hv : zDI b with
          | none => exact evn (by rw [p3 hv]; simp) (Ev.now _)
          | some v =>
            rw [p2 v hv]
            rw [hv] at h
            simp only [] at h
            cases hn : uS ws with
            | none => exact evp rfl (evn (by simp [zBV]) (Ev.now _))
            | some z => rw [hn] at h; cases h
        · exact absurd h last
      · rw [hll] at q
        simp only [rowP] at q
        cases hv : zDI b with
        | none => rw [hv] at q; cases q
        | some v =>
          rw [hv] at q
          simp only [] at q
          cases hn : uS ws with
          | none => rw [hn] at q; cases q
          | some z =>
            rw [hn] at q
            simp only [Option.some.injEq, Prod.mk.injEq] at q
            obtain ⟨rfl, rfl⟩ := q
            rw [p2 v hv]
            exact evp rfl (evp rfl (evp (by omega) (evp (by omega) hy)))
def hsOf (o : List (Int × List Int)) : List Int := o.map (·.1)
def tsOf (o : List (Int × List Int)) : List (List Int) := o.map (·.2)
def runR (ap : List Int) (r : Res) : List (Int × List Int) × Option Nat → Prop
  | (o, none) => (Valid (hsOf o) ap (tsOf o) → r = (hsOf o, ap, tsOf o, -1, 0)) ∧ (¬ Valid (hsOf o) ap (tsOf o) → ∃ c : Int, c ≠ 0 ∧ r = ([], [], [], -1, c))
  | (_, some i) => r = zDD ((i : Int) + 1)
theorem zVG {l : List UInt8} (hl : l.length ≤ 100000) {h : Int} {x : List Int} (q : zDH l = some (h, x)) : x.length ≤ 1000000 := by
  obtain ⟨w, ws, hp, hw1, hw2⟩ := zHK l hl
  unfold zDH at q
  rw [hp] at q
  have len : ∀ ws x, uS ws = some x → x.length = ws.length := by
    intro ws
    induction ws with
    | nil => intro x h; simp [uS] at h; simp [← h]
    | cons b r ih =>
      intro x h
      simp only [uS] at h
      cases hb : natP b with
      | none => rw [hb] at h; cases h
      | some v =>
        rw [hb] at h
        simp only [] at h
        cases hr : uS r with
        | none => rw [hr] at h; cases h
        | some z =>
          rw [hr] at h
          rw [← Option.some.inj h]
          simp [ih z hr]
  simp only [lineW] at q
  by_cases c : w = zGO
  · rw [if_pos c] at q
    cases ws with
    | nil => cases q
    | cons b r =>
      simp only [rowP] at q
      cases hv : zDI b with
      | none => rw [hv] at q; cases q
      | some v =>
        rw [hv] at q
        simp only [] at q
        cases hn : uS r with
        | none => rw [hn] at q; cases q
        | some z =>
          rw [hn] at q
          simp only [Option.some.injEq, Prod.mk.injEq] at q
          rw [← q.2, len r z hn]
          simp at hw1
          omega
  · rw [if_neg c] at q; cases q
theorem zUF (e : Bool) (ap : List Int) (hap : ap.length ≤ 1000000) : ∀ (ls : List (List UInt8)) (s : List UInt8) (all : List (List UInt8)) (out : List (Int × List Int)), lin [] s = (ls, e) → s.length ≤ 70000 → all.drop (out.length + 1) = ls → out.length + 1 + ls.length = all.length → all.length ≤ 1000000 → (∀ x, x ∈ out → x.2.length ≤ 1000000) →
    ∃ r, Ev (fun k => zU.l0 k (ba s) (((out.length + 1 : Nat)) : Int) (hsOf out) ap (tsOf out)) r ∧ Ev (fun k => zL.l0 k (all.map ba) e (((out.length + 1 : Nat)) : Int) (hsOf out) ap (tsOf out)) r ∧ runR ap r (run zDH e ls out) := by
  intro ls
  induction ls with
  | nil =>
    intro s all out h1 h2 h3 h4 h5 h6
    obtain ⟨rfl, rfl⟩ := zNV h1
    have big : (1000000 : Nat) ≤ maxLen := by decide
    have l1 : (hsOf out).length = out.length := by simp [hsOf]
    have l2 : (tsOf out).length = out.length := by simp [tsOf]
    simp only [List.length_nil] at h4
    obtain ⟨c, c1, c2, c3⟩ := zNI (hsOf out) ap (tsOf out) (by omega) (by omega) (by omega) (fun x hx => by
      obtain ⟨y, hy, rfl⟩ := List.mem_map.1 hx
      have := h6 y hy
      omega)
    refine ⟨if c = 0 then (hsOf out, ap, tsOf out, -1, 0) else ([], [], [], -1, c), ?_, ?_, ?_⟩
    · refine Ev.step (fun k => zU.l0.eq_2 ..) (evn (by omega) ?_)
      rw [show ((ba ([] : List UInt8)).toList != ([] : List UInt8)) = false from by rw [kZ]; rfl]
      refine Ev.step (fun k => zU.j1.eq_2 ..) (evn (by simp) (evb c1 ?_))
      by_cases q : c = 0
      · exact evp q (evr (by rw [if_pos q]))
      · exact evn q (evr (by rw [if_neg q]))
    · refine Ev.step (fun k => zL.l0.eq_2 ..) (evn (by rw [List.length_map]; omega) (evb c2 ?_))
      by_cases q : c = 0
      · exact evp q (evr (by rw [if_pos q]))
      · exact evn q (evr (by rw [if_neg q]))
    · exact ⟨fun g => by rw [if_pos (c3.2 g)], fun g => ⟨c, fun q => g (c3.1 q), by rw [if_neg (fun q => g (c3.1 q))]⟩⟩
  | cons l r ih =>
    intro s all out h1 h2 h3 h4 h5 h6
    obtain ⟨e1, e2, hne, hll⟩ := zTT h1
    have l1 : (hsOf out).length = out.length := by simp [hsOf]
    have l2 : (tsOf out).length = out.length := by simp [tsOf]
    simp only [List.length_cons] at h4
    have hp := zUD (s := s) (n := ((out.length + 1 : Nat) : Int)) (hs' := hsOf out) (ap := ap) (ts := tsOf out) h2 hne (by omega) (by omega) (by omega) (by omega)
    have hr := zVI e (n := out.length + 1) (hs := hsOf out) (ap := ap) (ts := tsOf out) (by omega) h3 (by omega) (by omega) h5 (by omega) (by omega)
    rw [e1] at hp
    have en : (((out.length + 1 : Nat) : Int)) = (out.length : Int) + 1 := by omega
    rw [run_cons]
    cases hx : zDH l with
    | none => exact ⟨_, hp.1 (.inr hx), hr.1 (.inl hx), by show zDD _ = zDD _; rw [en]⟩
    | some x =>
      obtain ⟨h, xs⟩ := x
      simp only []
      rcases e2 with ⟨c, hrest⟩ | ⟨c, _, rfl, rfl⟩
      · have hno : ¬ (r = [] ∧ e = false) := fun h => by
          have := (zNV (s := (cut1 10 s).2.1) (e := e) (by rw [hrest, h.1])).2
          rw [h.2] at this; cases this
        rw [if_neg hno]
        have hl2 := zPK 10 s c
        have h3' := (all_at h3).2.2
        have lo : (out ++ [(h, xs)]).length = out.length + 1 := by simp
        obtain ⟨y, y1, y2, y3⟩ := ih (cut1 10 s).2.1 all (out ++ [(h, xs)]) hrest (by omega) (by rw [lo]; exact h3') (by rw [lo]; omega) h5 (fun z hz => by
          rcases List.mem_append.1 hz with hz | hz
          · exact h6 z hz
          · rw [List.mem_singleton.1 hz]
            exact zVG (by omega) hx)
        have a1 : hsOf (out ++ [(h, xs)]) = hsOf out ++ [h] := by simp [hsOf]
        have a2 : tsOf (out ++ [(h, xs)]) = tsOf out ++ [xs] := by simp [tsOf]
        have a3 : (((out ++ [(h, xs)]).length + 1 : Nat) : Int) = ((out.length + 1 : Nat) : Int) + 1 := by rw [lo]; omega
        rw [a1, a2, a3] at y1 y2
        exact ⟨y, hp.2 h xs c hx y y1, hr.2 h xs hx hno y y2, y3⟩
      · rw [if_pos ⟨rfl, rfl⟩]
        exact ⟨_, hp.1 (.inl c), hr.1 (.inr ⟨rfl, rfl⟩), by show zDD _ = zDD _; rw [en]⟩
/-- What a text has. -/
def tabL (s : List UInt8) : Option (List Int × List (Int × List Int)) := match lin [] s with
  | ([], _) => none
  | (l :: r, e) => match zMA l with
    | none => none
    | some ap => if r = [] ∧ e = false then none else match run zDH e r [] with
      | (_, some _) => none
      | (o, none) => some (ap, o)
def zVL (r : Res) (t : Option (List Int × List (Int × List Int))) : Prop :=
  (∀ ap o, t = some (ap, o) → (Valid (hsOf o) ap (tsOf o) → r = (hsOf o, ap, tsOf o, -1, 0)) ∧ (¬ Valid (hsOf o) ap (tsOf o) → ∃ c : Int, c ≠ 0 ∧ r = ([], [], [], -1, c))) ∧
  (t = none → ∃ i c : Int, c ≠ 0 ∧ r = ([], [], [], i, c))
theorem zSY {l : List UInt8} (hl : l.length ≤ 100000) {ap : List Int} (q : zMA l = some ap) : ap.length ≤ 1000000 := by
  obtain ⟨w, ws, hp, hw1, hw2⟩ := zHK l hl
  unfold zMA at q
  rw [hp] at q
  have len : ∀ ws x, uS ws = some x → x.length = ws.length := by
    intro ws
    induction ws with
    | nil => intro x h; simp [uS] at h; simp [← h]
    | cons b r ih =>
      intro x h
      simp only [uS] at h
      cases hb : natP b with
      | none => rw [hb] at h; cases h
      | some v =>
        rw [hb] at h
        simp only [] at h
        cases hr : uS r with
        | none => rw [hr] at h; cases h
        | some z =>
          rw [hr] at h
          rw [← Option.some.inj h]
          simp [ih z hr]
  simp only [firstW] at q
  by_cases c : w = wApp
  · rw [if_pos c] at q
    rw [len ws ap q]; exact hw1
  · rw [if_neg c] at q; cases q
theorem zUG (s : List UInt8) (hs : s.length ≤ 65536) : ∃ r, Ev (fun k => zU.f k (ba s)) r ∧ Ev (fun k => zL.f k (ba s)) r ∧ zVL r (tabL s) := by
  have hL := lines_ev (ba s) (by rw [yC]; omega)
  rw [zBZ] at hL
  have hlen := zRV s []
  unfold zU.f zL.f
  have prog : ∀ y, Ev (fun k => zU.l0 k (ba s) 0 [] [] []) y → Ev (fun k => if ((ba s).size : Int) > 65536 then some (([] : List Int), ([] : List Int), ([] : List (List Int)), (-1 : Int), (8 : Int)) else zU.l0 k (ba s) 0 [] [] []) y := fun y hy => evn (by rw [yC]; omega) hy
  have enter : ∀ y, Ev (fun k => zU.j1 k (ba s) 0 true [] [] []) y → Ev (fun k => zU.l0 k (ba s) 0 [] [] []) y := fun y hy =>
    Ev.step (fun k => zU.l0.eq_2 ..) (evp rfl hy)
  cases hlin : lin [] s with
  | mk ls e =>
    rw [hlin] at hL hlen
    cases ls with
    | nil =>
      obtain ⟨rfl, rfl⟩ := zNV hlin
      refine ⟨zDD 0, prog _ (enter _ (Ev.step (fun k => zU.j1.eq_2 ..) (evp rfl ?_))), evn (by rw [yC]; simp) (evb hL (evp rfl (Ev.now _))), ?_⟩
      · have hc := cut_ev (ba []) (by decide)
        rw [hc]
        exact evb (Ev.now _) (evn (by decide) (Ev.now _))
      · unfold tabL
        rw [hlin]
        exact ⟨(fun ap o h => by cases h), fun _ => ⟨0, 3, by decide, rfl⟩⟩
    | cons l r =>
      obtain ⟨e1, e2, hne, hll⟩ := zTT hlin
      simp only [List.length_cons] at hlen
      obtain ⟨w, ws, hp, hw1, hw2⟩ := zHK l (by omega)
      have hfl : zMA l = if w = wApp then uS ws else none := by unfold zMA; rw [hp]; rfl
      have hsp := zTO (ba l) (by rw [yC]; omega)
      rw [zBZ, hp] at hsp
      have q0 := zVP ws hw1 hw2
      have q1 := zKS ws hw1 hw2
      have w1 : wrap64 ((0 : Int) + 1) = 1 := (w64 (by omega) (by omega)).trans (by omega)
      have body : ∀ y, Ev (fun k => if (cut1 10 s).2.2 = true then (if (zBV [] (uS ws)).2 = true then (if w = wApp then zU.l0 k (ba (cut1 10 s).2.1) 1 [] (zBV [] (uS ws)).1 [] else some (zDD 0)) else some (zDD 0)) else some (zDD 0)) y → Ev (fun k => zU.l0 k (ba s) 0 [] [] []) y := by
        intro y hy
        refine enter y (zNQ (by omega) hne ?_)
        by_cases hf : (cut1 10 s).2.2 = true
        · simp only [if_pos hf] at hy
          refine evp hf ?_
          rw [e1, hsp, w1]
          refine evb (Ev.now _) (evp rfl ?_)
          rw [zPO, zMB, zHO, kZ]
          refine evp (by omega) (evb q0 ?_)
          by_cases c : (zBV [] (uS ws)).2 = true
          · simp only [if_pos c] at hy
            exact evp c (evp (by omega) hy)
          · simp only [if_neg c] at hy
            exact evn c hy
        · simp only [if_neg hf] at hy
          exact evn hf hy
      have ref : ∀ y, Ev (fun k => zL.l0 k ((l :: r).map ba) e 0 [] [] []) y → Ev (fun k => if ((ba s).size : Int) > 65536 then some (([] : List Int), ([] : List Int), ([] : List (List Int)), (-1 : Int), (8 : Int)) else (vR.f k (ba s)).bind fun bt159 => if (bt159.1.length : Int) = 0 then some (([] : List Int), ([] : List Int), ([] : List (List Int)), (0 : Int), (3 : Int)) else zL.l0 k bt159.1 bt159.2 0 [] [] []) y := fun y hy =>
        evn (by rw [yC]; omega) (evb hL (evn (by first | (simp; done) | (simp only [List.length_cons, List.length_map]; omega) | (simp; omega)) hy))
      have rbody : ∀ y, Ev (fun k => if (r = [] ∧ e = false) then some (zDD 0) else (if w = wApp then (if (zBV [] (uS ws)).2 = true then zL.l0 k ((l :: r).map ba) e 1 [] (zBV [] (uS ws)).1 [] else some (zDD 0)) else some (zDD 0))) y → Ev (fun k => zL.l0 k ((l :: r).map ba) e 0 [] [] []) y := by
        intro y hy
        refine zKT (n := 0) (all := l :: r) (l := l) (r := r) rfl (by first | (simp; done) | (simp only [List.length_cons, List.length_map]; omega) | (simp; omega)) (by omega) (by first | (simp; done) | (simp only [List.length_cons, List.length_map]; omega) | (simp; omega)) hp ?_
        by_cases last : r = [] ∧ e = false
        · simp only [if_pos last] at hy
          rw [decide_eq_true last]
          exact Ev.step (fun k => zL.j1.eq_2 ..) (evp rfl hy)
        · simp only [if_neg last] at hy
          rw [decide_eq_false last]
          refine Ev.step (fun k => zL.j1.eq_2 ..) (evn (by simp) (evp rfl ?_))
          rw [zHO, zPO, zMB, kZ]
          refine evp (by omega) (evb q1 (evp (by omega) ?_))
          by_cases c : w = wApp
          · simp only [if_pos c] at hy
            refine evp c ?_
            by_cases d : (zBV [] (uS ws)).2 = true
            · simp only [if_pos d] at hy
              refine evp d ?_
              show Ev (fun k => zL.l0 k ((l :: r).map ba) e (wrap64 (0 + 1)) [] (zBV [] (uS ws)).1 []) y
              rw [w1]
              exact hy
            · simp only [if_neg d] at hy
              exact evn d hy
          · simp only [if_neg c] at hy
            exact evn c hy
      have bad : tabL s = none → Ev (fun k => zU.l0 k (ba s) 0 [] [] []) (zDD 0) → Ev (fun k => zL.l0 k ((l :: r).map ba) e 0 [] [] []) (zDD 0) → _ := fun h1 h2 h3 =>
        (⟨zDD 0, prog _ h2, ref _ h3, (fun ap o h => by rw [h1] at h; cases h), fun _ => ⟨0, 3, by decide, rfl⟩⟩ : ∃ r, Ev (fun k => if ((ba s).size : Int) > 65536 then some (([] : List Int), ([] : List Int), ([] : List (List Int)), (-1 : Int), (8 : Int)) else zU.l0 k (ba s) 0 [] [] []) r ∧ Ev (fun k => if ((ba s).size : Int) > 65536 then some (([] : List Int), ([] : List Int), ([] : List (List Int)), (-1 : Int), (8 : Int)) else (vR.f k (ba s)).bind fun bt159 => if (bt159.1.length : Int) = 0 then some (([] : List Int), ([] : List Int), ([] : List (List Int)), (0 : Int), (3 : Int)) else zL.l0 k bt159.1 bt159.2 0 [] [] []) r ∧ zVL r (tabL s))
      have htab : tabL s = match zMA l with
          | none => none
          | some ap => if r = [] ∧ e = false then none else match run zDH e r [] with
            | (_, some _) => none
            | (o, none) => some (ap, o) := by unfold tabL; rw [hlin]
      cases hfirst : zMA l with
      | none =>
        rw [hfirst] at htab
        refine bad htab (body _ ?_) (rbody _ ?_)
        · by_cases hf : (cut1 10 s).2.2 = true
          · refine evp hf ?_
            rw [hfl] at hfirst
            by_cases c : w = wApp
            · rw [if_pos c] at hfirst
              exact evn (by rw [hfirst]; simp [zBV]) (Ev.now _)
            · by_cases d : (zBV [] (uS ws)).2 = true
              · exact evp d (evn c (Ev.now _))
              · exact evn d (Ev.now _)
          · exact evn hf (Ev.now _)
        · by_cases last : r = [] ∧ e = false
          · exact evp last (Ev.now _)
          · refine evn last ?_
            rw [hfl] at hfirst
            by_cases c : w = wApp
            · rw [if_pos c] at hfirst
              exact evp c (evn (by rw [hfirst]; simp [zBV]) (Ev.now _))
            · exact evn c (Ev.now _)
      | some ap =>
        have hap := zSY (by omega) hfirst
        rw [hfirst] at htab
        simp only [] at htab
        rw [hfl] at hfirst
        by_cases c : w = wApp
        case neg => rw [if_neg c] at hfirst; cases hfirst
        rw [if_pos c] at hfirst
        rw [hfirst] at body rbody
        rcases e2 with ⟨cf, hrest⟩ | ⟨cf, _, h1, h2⟩
        · have hno : ¬ (r = [] ∧ e = false) := fun h => by
            have := (zNV (s := (cut1 10 s).2.1) (e := e) (by rw [hrest, h.1])).2
            rw [h.2] at this; cases this
          rw [if_neg hno] at htab
          have hl2 := zPK 10 s cf
          obtain ⟨y, y1, y2, y3⟩ := zUF e ap hap r (cut1 10 s).2.1 (l :: r) [] hrest (by omega) rfl (by first | (simp; done) | (simp only [List.length_cons, List.length_map]; omega) | (simp; omega)) (by first | (simp; done) | (simp only [List.length_cons, List.length_map]; omega) | (simp; omega)) (fun x hx => by cases hx)
          refine ⟨y, prog _ (body _ (evp cf (evp rfl (evp c y1)))), ref _ (rbody _ (evn hno (evp c (evp rfl y2)))), ?_⟩
          rw [htab]
          cases hrun : run zDH e r [] with
          | mk o st =>
            rw [hrun] at y3
            cases st with
            | some i => exact ⟨(fun ap o h => by cases h), fun _ => ⟨_, 3, by decide, y3⟩⟩
            | none => exact ⟨fun ap' o' h => by
                simp only [Option.some.injEq, Prod.mk.injEq] at h
                obtain ⟨rfl, rfl⟩ := h
                exact y3, fun h => by cases h⟩
        · have hlast : r = [] ∧ e = false := ⟨h1, h2⟩
          rw [if_pos hlast] at htab
          exact bad htab (body _ (evn (by rw [cf]; simp) (Ev.now _))) (rbody _ (evp hlast (Ev.now _)))
end Go.Proofs.YtmdfnambaedllaaDoor.PL
namespace Go.Proofs.YtmdfnambaedllaaDoor.PL
open Go Go.RowKit Go.Proofs.YtmdfnambaedllaaDoorW.PrintWords Go.Proofs.YtmdfnambaedllaaDoorW.PrintLast Go.Proofs.YtmdfnambaedllaaDoorW.PrintMore Go.Proofs.YtmdfnambaedllaaDoor.Pr Go.Proofs.YtmdfnambaedllaaDoor.TX Go.Proofs.YtmdfnambaedllaaDoor.X Go.Proofs.YtmdfnambaedllaaDoor.Pure
def zEV : List Int → List UInt8
  | [] => []
  | x :: r => 32 :: (Lib.itoa x ++ zEV r)
def zKB (x : Int × List Int) : List UInt8 := zGO ++ zEV (x.1 :: x.2)
def firstT (ap : List Int) : List UInt8 := wApp ++ zEV ap
def Num (x : Int) : Prop := -99999 ≤ x ∧ x ≤ 99999
theorem zNT {x : Int} (h : Num x) : (Lib.itoa x).length ≤ 6 := by
  obtain ⟨h0, h1⟩ := h
  by_cases c : x < 0
  · rw [zKF c]
    have := zAZ (u := x.natAbs) (n := 5) (by omega) (by omega)
    simp only [List.length_cons]
    omega
  · have := zSA (n := x) (m := 5) (by omega) (by omega) (by omega)
    omega
theorem zFF : ∀ l : List Int, (∀ x, x ∈ l → Num x) → (zEV l).length ≤ 7 * l.length
  | [], _ => by simp [zEV]
  | x :: r, h => by
    have h1 := zNT (h x (by simp))
    have h2 := zFF r (fun y hy => h y (by simp [hy]))
    simp only [zEV, List.length_cons, List.length_append]
    omega
def RowP (x : Int × List Int) : Prop := -400 ≤ x.1 ∧ x.1 ≤ 600 ∧ x.2.length ≤ 32 ∧ ∀ y, y ∈ x.2 → 0 ≤ y ∧ y ≤ 10000
def ApP (ap : List Int) : Prop := ap.length ≤ 32 ∧ ∀ y, y ∈ ap → 0 ≤ y ∧ y ≤ 10000
theorem RowP.nums {x : Int × List Int} (h : RowP x) : ∀ y, y ∈ x.1 :: x.2 → Num y := fun y hy => by
  obtain ⟨h0, h1, h2, h3⟩ := h
  rcases List.mem_cons.1 hy with rfl | hy
  · exact ⟨by omega, by omega⟩
  · have := h3 y hy; exact ⟨by omega, by omega⟩
theorem ApP.nums {ap : List Int} (h : ApP ap) : ∀ y, y ∈ ap → Num y := fun y hy => by
  have := h.2 y hy; exact ⟨by omega, by omega⟩
theorem zQN {x : Int × List Int} (h : RowP x) : (zKB x).length ≤ 300 := by
  have h1 := zFF (x.1 :: x.2) h.nums
  have h2 := h.2.2.1
  unfold zKB
  rw [List.length_append]
  simp only [List.length_cons] at h1
  show 4 + _ ≤ _
  omega
theorem zNF {ap : List Int} (h : ApP ap) : (firstT ap).length ≤ 300 := by
  have h1 := zFF ap h.nums
  have h2 := h.1
  unfold firstT
  rw [List.length_append]
  show 8 + _ ≤ _
  omega
/-- The text of a table. -/
def tabT (ap : List Int) (o : List (Int × List Int)) : List UInt8 := firstT ap ++ 10 :: zJU zKB o
theorem zTN {o : List (Int × List Int)} {ap : List Int} (v : Valid (hsOf o) ap (tsOf o)) : ApP ap := by
  refine ⟨v.as32, fun y hy => ?_⟩
  obtain ⟨i, h0, h1, rfl⟩ := zQH hy
  exact v.str i h0 h1
theorem rdL_at (o : List (Int × List Int)) (n : Nat) (hn : n < o.length) : rd (hsOf o) (n : Int) = o[n].1 ∧ zW (tsOf o) (n : Int) = o[n].2 := by
  constructor
  · unfold rd hsOf
    rw [List.getD_eq_getElem?_getD, Int.toNat_natCast, List.getElem?_map, List.getElem?_eq_getElem hn]
    rfl
  · unfold zW tsOf
    rw [List.getD_eq_getElem?_getD, Int.toNat_natCast, List.getElem?_map, List.getElem?_eq_getElem hn]
    rfl
theorem zIC {o : List (Int × List Int)} {ap : List Int} (v : Valid (hsOf o) ap (tsOf o)) : ∀ x, x ∈ o → RowP x := fun x hx => by
  obtain ⟨n, hn, rfl⟩ := List.getElem_of_mem hx
  obtain ⟨e1, e2⟩ := rdL_at o n hn
  have l1 : (hsOf o).length = o.length := by simp [hsOf]
  have l2 : (tsOf o).length = o.length := by simp [tsOf]
  have hh := v.heat (n : Int) (by omega) (by omega)
  have hr := v.rect (n : Int) (by omega) (by omega)
  rw [e1] at hh
  rw [e2] at hr
  have h32 := v.as32
  refine ⟨hh.1, hh.2, by omega, fun y hy => ?_⟩
  obtain ⟨j, h0, h1, rfl⟩ := zQH hy
  have := v.num (n : Int) j (by omega) (by omega) h0 (by omega)
  rw [e2] at this
  exact this
theorem zPZ {o : List (Int × List Int)} {ap : List Int} (v : Valid (hsOf o) ap (tsOf o)) : o.length ≤ 32 := by
  have := v.hs32
  simpa [hsOf] using this
theorem zVC {hs ap : List Int} {ts : List (List Int)} (h : ts.length = hs.length) : hsOf (hs.zip ts) = hs ∧ tsOf (hs.zip ts) = ts := by
  constructor
  · exact List.map_fst_zip (by omega)
  · exact List.map_snd_zip (by omega)
theorem zTV {l : List Int} {i : Int} (h0 : 0 ≤ i) (h1 : i < (l.length : Int)) : l.drop i.toNat = rd l i :: l.drop (i + 1).toNat := by
  have hn : i.toNat < l.length := by omega
  have e : rd l i = l[i.toNat] := by
    unfold rd
    rw [List.getD_eq_getElem?_getD, List.getElem?_eq_getElem hn]
    rfl
  rw [e, show (i + 1).toNat = i.toNat + 1 from by omega]
  exact List.drop_eq_getElem_cons hn
theorem zTU {o : List (Int × List Int)} {i : Int} (h0 : 0 ≤ i) (h1 : i < (o.length : Int)) : ∃ x, x ∈ o ∧ rd (hsOf o) i = x.1 ∧ zW (tsOf o) i = x.2 ∧ o.drop i.toNat = x :: o.drop (i + 1).toNat := by
  have hn : i.toNat < o.length := by omega
  obtain ⟨e1, e2⟩ := rdL_at o i.toNat hn
  rw [Int.toNat_of_nonneg h0] at e1 e2
  refine ⟨o[i.toNat], List.getElem_mem _, e1, e2, ?_⟩
  rw [show (i + 1).toNat = i.toNat + 1 from by omega]
  exact List.drop_eq_getElem_cons hn
theorem zVT (w : List UInt8) (l : List Int) (hw : w.length ≤ 100) (hl : l.length ≤ 1000) (hx : ∀ x, x ∈ l → Num x) : Ev (fun k => qN.f k (ba w) l) (ba (w ++ zEV l ++ [10])) := by
  have key : ∀ i, 0 ≤ i → i ≤ (l.length : Int) → ∀ acc : List UInt8, (acc.length : Int) ≤ 100 + 7 * i → Ev (fun k => qN.l0 k (ba acc) l (l.length : Int) i) (ba (acc ++ zEV (l.drop i.toNat) ++ [10])) := by
    refine uA 0 (l.length : Int) _ ?_ ?_
    · intro acc ha
      rw [List.drop_eq_nil_of_le (by omega)]
      refine Ev.step (fun k => qN.l0.eq_2 ..) (evn (by omega) (evp (by rw [yC]; omega) (evr ?_)))
      rw [show (⟨#[10]⟩ : ByteArray) = ba [10] from rfl, zDP]
      simp [zEV]
    · intro i h0 h1 ih acc ha
      have hn := hx _ (rd_mem h0 h1)
      have hnl := zNT hn
      have q := ih (acc ++ 32 :: Lib.itoa (rd l i)) (by simp only [List.length_append, List.length_cons]; omega)
      refine Ev.step (fun k => qN.l0.eq_2 ..) (evp h1 (evp h0 (evp h1 ?_)))
      rw [zVV (by have := hn.1; omega) (by have := hn.2; omega), jI h0 h1 (by omega)]
      have e1 : (⟨#[32]⟩ : ByteArray) ++ ba (Lib.itoa (rd l i)) = ba (32 :: Lib.itoa (rd l i)) := zDP [32] _
      refine evb (Ev.now _) (evp (by rw [yC]; omega) ?_)
      rw [e1]
      refine evp (by rw [yC, yC]; simp only [List.length_cons]; omega) ?_
      rw [zDP, zTV h0 h1]
      simp only [zEV]
      simp only [List.append_assoc, List.cons_append, List.nil_append] at q ⊢
      exact q
  have h := key 0 (by omega) (by omega) w (by omega)
  rw [show (0 : Int).toNat = 0 from rfl, List.drop_zero] at h
  exact h
theorem print_ev {o : List (Int × List Int)} {ap : List Int} (v : Valid (hsOf o) ap (tsOf o)) (hc : Ev (fun k => zE.f k (hsOf o) ap (tsOf o)) 0) : Ev (fun k => qA.f k (hsOf o) ap (tsOf o)) (ba (tabT ap o), 0) := by
  have hap := zTN v
  have hro := zIC v
  have h32 := zPZ v
  have l1 : (hsOf o).length = o.length := by simp [hsOf]
  have l2 : (tsOf o).length = o.length := by simp [tsOf]
  have hfl := zNF hap
  have first := zVT wApp ap (by decide) (by have := hap.1; omega) hap.nums
  have e0 : wApp ++ zEV ap ++ [10] = firstT ap ++ [10] := rfl
  rw [e0] at first
  have key : ∀ i, 0 ≤ i → i ≤ (o.length : Int) → ∀ acc : List UInt8, (acc.length : Int) ≤ 301 + 301 * i → Ev (fun k => qA.l0 k (ba acc) (hsOf o) ((hsOf o).length : Int) i (hsOf o) ap (tsOf o)) (ba (acc ++ zJU zKB (o.drop i.toNat)), 0) := by
    refine uA 0 (o.length : Int) _ ?_ ?_
    · intro acc ha
      rw [List.drop_eq_nil_of_le (by omega)]
      exact Ev.step (fun k => qA.l0.eq_2 ..) (evn (by omega) (evr (by simp [zJU])))
    · intro i h0 h1 ih acc ha
      obtain ⟨x, hx, e1, e2, e3⟩ := zTU h0 h1
      have hp := hro x hx
      have hln := zQN hp
      have le := zVT zGO (x.1 :: x.2) (by decide) (by have := hp.2.2.1; simp only [List.length_cons]; omega) hp.nums
      have e4 : zGO ++ zEV (x.1 :: x.2) ++ [10] = zKB x ++ [10] := rfl
      rw [e4] at le
      have q := ih (acc ++ (zKB x ++ [10])) (by simp only [List.length_append, List.length_cons, List.length_nil]; omega)
      refine Ev.step (fun k => qA.l0.eq_2 ..) (evp (by omega) (evp h0 (evp (by omega) (evb (Ev.now _) (evp (by omega) ?_)))))
      rw [e1, e2, jI h0 h1 (by omega)]
      refine evp (by have := hp.2.2.1; simp only [List.length_cons, List.length_nil]; omega) (evb le ?_)
      refine evp (by rw [yC, yC]; simp only [List.length_append, List.length_cons, List.length_nil]; omega) ?_
      rw [zDP, e3]
      simp only [zJU]
      simp only [List.append_assoc, List.cons_append, List.nil_append] at q ⊢
      exact q
  unfold qA.f
  refine evb hc (evp rfl (evb first ?_))
  have h := key 0 (by omega) (by omega) (firstT ap ++ [10]) (by simp only [List.length_append, List.length_cons, List.length_nil]; omega)
  rw [show (0 : Int).toNat = 0 from rfl, List.drop_zero] at h
  unfold tabT
  simp only [List.append_assoc, List.cons_append, List.nil_append] at h
  exact h
theorem zQA {x : Int} (h : Num x) : Ev (fun k => yX.f k x) (ba (Lib.itoa x)) := by
  obtain ⟨h0, h1⟩ := h
  unfold yX.f
  by_cases c : x < 0
  · have hw : wrap64 (-x) = -x := w64 (by omega) (by omega)
    have hl := zSA (n := -x) (m := 5) (by omega) (by omega) (by omega)
    refine evp c ?_
    rw [hw]
    refine evb (dec_ev (by omega) (by omega)) (evp (by rw [yC]; omega) (evr ?_))
    rw [show (⟨#[45]⟩ : ByteArray) = ba [45] from rfl, zDP, zKF c, zKG (by omega)]
    show ba (45 :: _) = ba (45 :: _)
    rw [show (-x).toNat = x.natAbs from by omega]
    rfl
  · exact evn c (evb (dec_ev (by omega) (by omega)) (Ev.now _))
theorem zQD (l : List Int) (hl : l.length ≤ 1000) (hx : ∀ x, x ∈ l → Num x) : Ev (fun k => vW.f k l) (ba (zEV l)) := by
  have key : ∀ i, 0 ≤ i → i ≤ (l.length : Int) → ∀ acc : List UInt8, (acc.length : Int) ≤ 7 * i → Ev (fun k => vW.l0 k l (ba acc) i) (ba (acc ++ zEV (l.drop i.toNat))) := by
    refine uA 0 (l.length : Int) _ ?_ ?_
    · intro acc ha
      rw [List.drop_eq_nil_of_le (by omega)]
      exact Ev.step (fun k => vW.l0.eq_2 ..) (evn (by omega) (evr (by simp [zEV])))
    · intro i h0 h1 ih acc ha
      have hn := hx _ (rd_mem h0 h1)
      have hnl := zNT hn
      have q := ih (acc ++ 32 :: Lib.itoa (rd l i)) (by simp only [List.length_append, List.length_cons]; omega)
      refine Ev.step (fun k => vW.l0.eq_2 ..) (evp h1 (evp (by rw [yC]; omega) (evp h0 (evb (zQA hn) ?_))))
      have e1 : ba acc ++ (⟨#[32]⟩ : ByteArray) = ba (acc ++ [32]) := zDP _ _
      rw [e1]
      refine evp (by rw [yC, yC]; simp only [List.length_append, List.length_cons, List.length_nil]; omega) ?_
      rw [zDP, jI h0 h1 (by omega), zTV h0 h1]
      simp only [zEV]
      simp only [List.append_assoc, List.cons_append, List.nil_append] at q ⊢
      exact q
  have h := key 0 (by omega) (by omega) [] (by simp)
  rw [show (0 : Int).toNat = 0 from rfl, List.drop_zero, List.nil_append] at h
  exact h
theorem zQF {o : List (Int × List Int)} {ap : List Int} (v : Valid (hsOf o) ap (tsOf o)) (hc : Ev (fun k => zF.f k (hsOf o) ap (tsOf o)) 0) : Ev (fun k => wP.f k (hsOf o) ap (tsOf o)) (ba (tabT ap o), 0) := by
  have hap := zTN v
  have hro := zIC v
  have h32 := zPZ v
  have l1 : (hsOf o).length = o.length := by simp [hsOf]
  have l2 : (tsOf o).length = o.length := by simp [tsOf]
  have hfl := zNF hap
  have hfl2 := zFF ap hap.nums
  have hap1 := hap.1
  have first := zQD ap (by omega) hap.nums
  have key : ∀ i, 0 ≤ i → i ≤ (o.length : Int) → ∀ acc : List UInt8, (acc.length : Int) ≤ 301 + 301 * i → Ev (fun k => wP.l0 k (ba acc) i (hsOf o) ap (tsOf o)) (ba (acc ++ zJU zKB (o.drop i.toNat)), 0) := by
    refine uA 0 (o.length : Int) _ ?_ ?_
    · intro acc ha
      rw [List.drop_eq_nil_of_le (by omega)]
      exact Ev.step (fun k => wP.l0.eq_2 ..) (evn (by omega) (evr (by simp [zJU])))
    · intro i h0 h1 ih acc ha
      obtain ⟨x, hx, e1, e2, e3⟩ := zTU h0 h1
      have hp := hro x hx
      have hln := zQN hp
      have hnum := hp.nums
      have s1 := zQA (hnum x.1 (by simp))
      have s1l := zNT (hnum x.1 (by simp))
      have s2 := zQD x.2 (by have := hp.2.2.1; omega) (fun y hy => hnum y (by simp [hy]))
      have s2l := zFF x.2 (fun y hy => hnum y (by simp [hy]))
      have hx32 := hp.2.2.1
      have q := ih (acc ++ (zKB x ++ [10])) (by simp only [List.length_append, List.length_cons, List.length_nil]; omega)
      refine Ev.step (fun k => wP.l0.eq_2 ..) (evp (by omega) (evp (by rw [yC]; omega) (evp h0 ?_)))
      rw [e1, e2, jI h0 h1 (by omega)]
      have f1 : ba acc ++ (⟨#[104, 101, 97, 116, 32]⟩ : ByteArray) = ba (acc ++ [104, 101, 97, 116, 32]) := zDP _ _
      rw [f1]
      refine evb s1 (evp (by rw [yC, yC]; simp only [List.length_append, List.length_cons, List.length_nil]; omega) (evp (by omega) (evb s2 ?_)))
      rw [zDP, zDP]
      refine evp (by rw [yC, yC]; simp only [List.length_append, List.length_cons, List.length_nil]; omega) (evp (by rw [yC]; simp only [List.length_append, List.length_cons, List.length_nil]; omega) ?_)
      have f2 : ∀ z : List UInt8, ba z ++ (⟨#[10]⟩ : ByteArray) = ba (z ++ [10]) := fun z => zDP _ _
      rw [f2, e3]
      simp only [zJU]
      simp only [zKB, zGO, zEV, List.append_assoc, List.cons_append, List.nil_append] at q ⊢
      exact q
  unfold wP.f
  refine evb hc (evp rfl (evb first (evp (by rw [yC]; omega) ?_)))
  have f0 : (⟨#[97, 112, 112, 97, 114, 101, 110, 116]⟩ : ByteArray) ++ ba (zEV ap) = ba (firstT ap) := zDP _ _
  have f2 : ba (firstT ap) ++ (⟨#[10]⟩ : ByteArray) = ba (firstT ap ++ [10]) := zDP _ _
  rw [f0, f2]
  refine evp (by rw [yC]; omega) ?_
  have h := key 0 (by omega) (by omega) (firstT ap ++ [10]) (by simp only [List.length_append, List.length_cons, List.length_nil]; omega)
  rw [show (0 : Int).toNat = 0 from rfl, List.drop_zero] at h
  unfold tabT
  simp only [List.append_assoc, List.cons_append, List.nil_append] at h
  exact h
/-- Both printers: a valid table's text, or the error. -/
theorem zUE (hs ap : List Int) (ts : List (List Int)) (hh : hs.length ≤ maxLen) (ha : ap.length ≤ maxLen) (ht : ts.length ≤ maxLen) (hrl : ∀ x, x ∈ ts → x.length ≤ maxLen) :
    ∃ r : ByteArray × Int, Ev (fun k => qA.f k hs ap ts) r ∧ Ev (fun k => wP.f k hs ap ts) r ∧ (Valid hs ap ts → r = (ba (tabT ap (hs.zip ts)), 0)) ∧ (¬ Valid hs ap ts → r = (ba [], 1)) := by
  obtain ⟨c, c1, c2, c3⟩ := zNI hs ap ts hh ha ht hrl
  by_cases v : Valid hs ap ts
  · obtain ⟨z1, z2⟩ := zVC (ap := ap) v.rows
    have hc0 := c3.2 v
    rw [hc0] at c1 c2
    have p1 := print_ev (o := hs.zip ts) (ap := ap) (by rw [z1, z2]; exact v) (by rw [z1, z2]; exact c1)
    have p2 := zQF (o := hs.zip ts) (ap := ap) (by rw [z1, z2]; exact v) (by rw [z1, z2]; exact c2)
    rw [z1, z2] at p1 p2
    exact ⟨_, p1, p2, fun _ => rfl, fun h => absurd v h⟩
  · have hc0 : ¬ c = 0 := fun h => v (c3.1 h)
    refine ⟨(ba [], 1), ?_, ?_, fun h => absurd h v, fun _ => rfl⟩
    · unfold qA.f; exact evb c1 (evn hc0 (Ev.now _))
    · unfold wP.f; exact evb c2 (evn hc0 (Ev.now _))
theorem zRP (l : List Int) (hl : l.length ≤ maxLen) : Ev (fun k => wK.f k l l) true := by
  have hm := zCV hl
  unfold wK.f
  refine evp rfl ?_
  refine uA 0 (l.length : Int) (fun i => Ev (fun k => wK.l0 k l l i) true) ?_ ?_ 0 (by omega) (by omega)
  · exact Ev.step (fun k => wK.l0.eq_2 ..) (evn (by omega) (Ev.now _))
  · intro i h0 h1 ih
    refine Ev.step (fun k => wK.l0.eq_2 ..) (evp h1 (evp h0 (evp h1 (evp rfl ?_))))
    rw [jI h0 h1 hm]
    exact ih
theorem zQC (hs ap : List Int) (ts : List (List Int)) (hh : hs.length ≤ maxLen) (ha : ap.length ≤ maxLen) (ht : ts.length ≤ maxLen) (hrl : ∀ x, x ∈ ts → x.length ≤ maxLen) : Ev (fun k => wE.f k hs ap ts hs ap ts) true := by
  have hm := zCV ht
  have hrl' := zVH hrl
  unfold wE.f
  refine evb (zRP hs hh) (evp rfl (evb (zRP ap ha) (evp rfl ?_)))
  rw [show ((ts.length : Int) != (ts.length : Int)) = false from bne_self_eq_false _]
  refine Ev.step (fun k => wE.j0.eq_2 ..) (evn (by simp) ?_)
  refine uA 0 (ts.length : Int) (fun i => Ev (fun k => wE.l0 k i hs ap ts hs ap ts) true) ?_ ?_ 0 (by omega) (by omega)
  · exact Ev.step (fun k => wE.l0.eq_2 ..) (evn (by omega) (Ev.now _))
  · intro i h0 h1 ih
    refine Ev.step (fun k => wE.l0.eq_2 ..) (evp h1 (evp h0 (evp h1 (evb (zRP _ (hrl' i h0 h1)) (evp rfl ?_)))))
    rw [jI h0 h1 hm]
    exact ih
theorem zKD (x : Int) : ∃ b, vK.f x = some b := by
  unfold vK.f
  split
  · exact ⟨_, rfl⟩
  · split <;> exact ⟨_, rfl⟩
theorem few_ev (hs as_ : List Int) (ts : List (List Int)) (ht : ts.length ≤ maxLen) : ∃ b, Ev (fun k => wJ.f k hs as_ ts) b := by
  have hm := zCV ht
  have loop := uA 0 (ts.length : Int) (fun i => ∃ b, Ev (fun k => wJ.l0 k i hs as_ ts) b) ⟨true, Ev.step (fun k => wJ.l0.eq_2 ..) (evn (by omega) (Ev.now _))⟩ (fun i h0 h1 ⟨b, hb⟩ => by
    obtain ⟨s, hs'⟩ := zKD ((zW ts i).length : Int)
    cases s with
    | true =>
      refine ⟨b, Ev.step (fun k => wJ.l0.eq_2 ..) (evp h1 (evp h0 (evb (evc (fun _ => rfl) hs') (evp rfl ?_))))⟩
      rw [jI h0 h1 hm]
      exact hb
    | false => exact ⟨false, Ev.step (fun k => wJ.l0.eq_2 ..) (evp h1 (evp h0 (evb (evc (fun _ => rfl) hs') (evn (by decide) (Ev.now _)))))⟩) 0 (by omega) (by omega)
  have no : Ev (fun k => wJ.j0 k true hs as_ ts) false := Ev.step (fun k => wJ.j0.eq_2 ..) (evp rfl (Ev.now _))
  obtain ⟨s1, e1⟩ := zKD (hs.length : Int)
  obtain ⟨s2, e2⟩ := zKD (as_.length : Int)
  obtain ⟨s3, e3⟩ := zKD (ts.length : Int)
  unfold wJ.f
  cases s1 with
  | false => exact ⟨false, evb (evc (fun _ => rfl) e1) (evn (by decide) no)⟩
  | true =>
    cases s2 with
    | false => exact ⟨false, evb (evc (fun _ => rfl) e1) (evp rfl (evb (evc (fun _ => rfl) e2) (evn (by decide) no)))⟩
    | true =>
      cases s3 with
      | false => exact ⟨false, evb (evc (fun _ => rfl) e1) (evp rfl (evb (evc (fun _ => rfl) e2) (evp rfl (evb (evc (fun _ => rfl) e3) no))))⟩
      | true =>
        obtain ⟨b, hb⟩ := loop
        exact ⟨b, evb (evc (fun _ => rfl) e1) (evp rfl (evb (evc (fun _ => rfl) e2) (evp rfl (evb (evc (fun _ => rfl) e3) (Ev.step (fun k => wJ.j0.eq_2 ..) (evn (by decide) hb))))))⟩
end Go.Proofs.YtmdfnambaedllaaDoor.PL
namespace Go.Proofs.YtmdfnambaedllaaDoor.Pure
open Go Go.RowKit Go.Proofs.YtmdfnambaedllaaDoorW.PrintWords Go.Proofs.YtmdfnambaedllaaDoorW.PrintLast Go.Proofs.YtmdfnambaedllaaDoorW.PrintMore Go.Proofs.YtmdfnambaedllaaDoor.Pr Go.Proofs.YtmdfnambaedllaaDoor.Opn Go.Proofs.YtmdfnambaedllaaDoor.X Go.Proofs.YtmdfnambaedllaaDoor.PL Go.Proofs.YtmdfnambaedllaaDoor.TX
theorem zRM {o : List (Int × List Int)} {ap : List Int} (v : Valid (hsOf o) ap (tsOf o)) : (hsOf o).length ≤ maxLen ∧ ap.length ≤ maxLen ∧ (tsOf o).length ≤ maxLen ∧ ∀ x, x ∈ tsOf o → x.length ≤ maxLen := by
  have big : (1000000 : Nat) ≤ maxLen := by decide
  have h1 := v.hs32
  have h2 := v.as32
  have h3 := v.rows
  refine ⟨by omega, by omega, by omega, fun x hx => ?_⟩
  obtain ⟨y, hy, rfl⟩ := List.mem_map.1 hx
  have := (zIC v y hy).2.2.1
  omega
theorem res_same {r : Res} {t : Option (List Int × List (Int × List Int))} (h : zVL r t) : Ev (fun k => wE.f k r.1 r.2.1 r.2.2.1 r.1 r.2.1 r.2.2.1) true := by
  have none_ : ∀ i c : Int, r = ([], [], [], i, c) → Ev (fun k => wE.f k r.1 r.2.1 r.2.2.1 r.1 r.2.1 r.2.2.1) true := fun i c e => by
    rw [e]
    exact zQC [] [] [] (by decide) (by decide) (by decide) (fun x hx => by cases hx)
  cases t with
  | none => obtain ⟨i, c, _, e⟩ := h.2 rfl; exact none_ i c e
  | some p =>
    obtain ⟨ap, o⟩ := p
    obtain ⟨h1, h2⟩ := h.1 ap o rfl
    by_cases v : Valid (hsOf o) ap (tsOf o)
    · rw [h1 v]
      obtain ⟨a, b, c, d⟩ := zRM v
      exact zQC _ _ _ a b c d
    · obtain ⟨c, _, e⟩ := h2 v
      exact none_ _ c e
theorem zGF : zKC := by
  intro hs as_ ts s ⟨hh, _⟩ ⟨ha, _⟩ ⟨ht, hr⟩ hsz
  refine Ev.rounds (r := true) ?_
  unfold wL.f
  refine evb (a := true) (evc (fun _ => rfl) rfl) (evp rfl ?_)
  obtain ⟨b, hb⟩ := few_ev hs as_ ts ht
  refine evb hb ?_
  cases b with
  | false => exact evn (by simp) (Ev.step (fun k => wL.j0.eq_2 ..) (evp rfl (Ev.now _)))
  | true =>
    refine evp rfl ?_
    by_cases c : (s.size : Int) > 1000
    · rw [decide_eq_true c]
      exact Ev.step (fun k => wL.j0.eq_2 ..) (evp rfl (Ev.now _))
    · rw [decide_eq_false c]
      obtain ⟨p, p1, p2, _, _⟩ := zUE hs as_ ts hh ha ht (fun x hx => (hr x hx).1)
      obtain ⟨r, r1, r2, r3⟩ := zUG s.data.toList (by rw [size_data]; omega)
      rw [zPM] at r1 r2
      refine Ev.step (fun k => wL.j0.eq_2 ..) (evn (by simp) (evb p1 (evb p2 (evb r1 (evb r2 ?_)))))
      exact evp rfl (evp rfl (evb (res_same r3) (evp rfl (evp rfl (evr (by simp))))))
end Go.Proofs.YtmdfnambaedllaaDoor.Pure
namespace Go.Proofs.YtmdfnambaedllaaDoor.X
open Go
variable {H : Type} {enc : TypeId × Value → H}
theorem zRL {a : Assume} {C : Checked} {os : Os} {f : FuncId} {fn : Func} {s : ChangeSpec} {conds : List PathCond} {apart fresh handsOn again : Bool} {X : World → Array Value → Prop}
    (hX : ∀ (w w' : World) (args : Array Value), w.heap = w'.heap → X w args → X w' args)
    (own : ownKnob C.prog.godebug = none) (started : os.Started) (noInit : C.prog.inits.idxOf? f = none) (hfn : C.prog.funcs[f]? = some fn)
    (witness : ∃ (w : World) (tape : Tape) (i : Input), w.os = os ∧ (w.forCall tape i).Shaped C.prog ∧ i.vars = [] ∧ Input.okWide C.prog (w.forCall tape i) .any w.heap.size f i ∧
      ((s.pre enc C.prog fn conds apart (w.forCall tape i).memory i.args ∧ X (w.forCall tape i).memory i.args) ∧ sizedMet enc C.prog fn (OpenSpec.ofChange s) apart (w.forCall tape i).memory i.args) ∧ a.holds C.prog (lone (Frame.enter C.prog f i.args .normal) [] (w.forCall tape i)))
    (walk : ∀ (W : World) (base : Nat) (args : Array Value) (ds gs : List (DataW H)) (before : List MemPlace),
      (∀ (j : Nat) t v, fn.params[j]? = some t → args[j]? = some v → Value.okWide C.prog W .any base t v) →
      DataW.Whole enc C.prog fn.params.toList s.vars apart W args.toList ds gs before → X W args → W.ShapedOpen C.prog →
      Calls C.prog f args W fun e W' => ∃ v, e = .returned v ∧ s.post enc C.prog fn apart fresh handsOn again W args v W') :
    ReturnsInHanded a C os f .any (fun w args => (s.pre enc C.prog fn conds apart w args ∧ X w args) ∧ sizedMet enc C.prog fn (OpenSpec.ofChange s) apart w args) (s.post enc C.prog fn apart fresh handsOn again) := by
  refine returnsInHanded_of_calls own started noInit witness ?_
  intro w tape i _ hsh _ hok hpre _
  obtain ⟨_, _, _, fn', hfn', _, _, _, _, hval⟩ := hok
  obtain rfl : fn' = fn := Option.some.inj (hfn'.symm.trans hfn)
  obtain ⟨⟨⟨ds, gs, before, hw, _⟩, hx⟩, _⟩ := hpre
  refine (walk (w.forCall tape i) w.heap.size i.args ds gs before hval (DataW.Whole.of_heap (w' := w.forCall tape i) (by rfl) hw) (hX _ _ _ (by rfl) hx) hsh).mono fun e W' ⟨v, he, hp⟩ => ?_
  subst he
  exact ChangeSpec.post_blind hp
end Go.Proofs.YtmdfnambaedllaaDoor.X
namespace Go.Proofs.YtmdfnambaedllaaDoor.correctTexts
open Go Go.ChangeShapes Go.WideShapes Go.ChangeAt Go.RowKit
open Go.ChangeMaps (open_string shut_string)
open Go.Proofs.YtmdfnambaedllaaDoorW.PrintWords Go.Proofs.YtmdfnambaedllaaDoor.O Go.Proofs.YtmdfnambaedllaaDoor.Opn Go.Proofs.YtmdfnambaedllaaDoor.Pr Go.Proofs.YtmdfnambaedllaaDoor.X
theorem own : ownKnob Tryd.prog.godebug = none := by kernel_rfl
theorem laidOut : laidOutB Tryd.prog = true := by kernel_rfl
abbrev zQQ : List (String × DataW Unit) := [("math/bits.deBruijn32tab", Rows.laid_math_bits_deBruijn32tab), ("math/bits.deBruijn64tab", Rows.laid_math_bits_deBruijn64tab), ("internal/strconv.uint64pow10", Rows.laid_internal_strconv_uint64pow10), ("unicode/utf8.acceptRanges", Rows.laid_unicode_utf8_acceptRanges), ("strconv.ErrRange", Rows.laid_strconv_ErrRange), ("strconv.ErrSyntax", Rows.laid_strconv_ErrSyntax), ("unicode/utf8.first", Rows.laid_unicode_utf8_first)]
set_option maxRecDepth 100000 in
theorem lifted (os : Os) (started : os.Started) (H : Type) (enc : TypeId × Value → H) :
    ReturnsInHanded {} Tryd.checked os 8 .any (fun w args => (Rows.correctTextsSpec.pre enc Tryd.prog Tryd.f8 [] false w args ∧ laidMetH Tryd.prog zQQ w) ∧ sizedMet enc Tryd.prog Tryd.f8 (OpenSpec.ofChange Rows.correctTextsSpec) false w args)
      (Rows.correctTextsSpec.post enc Tryd.prog Tryd.f8 false true false false) := by
  refine zRL (C := Tryd.checked) (X := (fun w _ => laidMetH Tryd.prog zQQ w)) (fun _ _ _ hh h => h.of_heap hh) own started (by kernel_rfl) Tryd.func8
    (ChangeSpec.witness_shaped (enc := enc) (C := Tryd.checked) (os := os) (X := (fun w _ => laidMetH Tryd.prog zQQ w)) false (World.laidAll Tryd.prog os zQQ) #[.agg #[.slice none 0 0, .slice none 0 0, .slice none 0 0], .string ByteArray.empty] 8 (World.laidAll_os _ _ _) (World.shaped_of_ZipB (by kernel_rfl) (by kernel_rfl)) (by kernel_rfl) (by kernel_rfl) (by kernel_rfl) (by rw [MakeChecks.laidMetH_plain _ _ _ (by kernel_rfl)]; exact laidMet_laidAll _ (by kernel_rfl) (by kernel_rfl))) ?_
  intro W base args ds gs before hval0 hW hL hsh
  have hval : ∀ (j : Nat) t v, Tryd.f8.params[j]? = some t → args[j]? = some v → Value.okWide Tryd.prog W .any base t v := hval0
  have hW' := hW
  obtain ⟨p, q, hA0, hV, rfl, hfz, hnd⟩ := hW
  have hA : DataW.TrodAll enc Tryd.prog W 0 (fun _ => true) true Tryd.f8.params.toList args.toList ds p := hA0
  rw [Tryd.params8] at hA hval
  obtain ⟨v0, vs0, d0, ds0, p0, q0, hargs, rfl, rfl, h0, r0⟩ := trodAll_cons hA
  obtain ⟨v1, vs1, d1, ds1, p1, q1, rfl, rfl, rfl, h1, r1⟩ := trodAll_cons r0
  obtain ⟨rfl, rfl, rfl⟩ := trodAll_nil r1
  obtain rfl : args = #[v0, v1] := by cases args; simp_all
  obtain ⟨rfl, rfl⟩ := trodVars_none hV
  obtain ⟨cs0, rfl, _⟩ := okWide_struct Tryd.underlying25 (hval 0 25 v0 rfl rfl)
  have k0 := h0
  have lt0 : ∀ x ∈ p0, x.block < W.heap.size := by obtain ⟨m, hm⟩ := k0; exact DataW.trod_lt m _ _ _ hm
  obtain ⟨x0, K0, ok0⟩ : ∃ x, k25.K W x cs0.toList ∧ ok25 x := by
    obtain ⟨fuel, hf⟩ := h0
    exact opens25.2 _ _ _ _ _ _ _ _ _ hf
  obtain ⟨A0_0, c0_0, A0_1, c0_1, A0_2, c0_2, e0, g0_0, hr0_0, g0_1, hr0_1, g0_2, hr0_2⟩ := k25_open K0
  obtain rfl : cs0 = #[.slice A0_0 (x0.f0).length c0_0, .slice A0_1 (x0.f1).length c0_1, .slice A0_2 (x0.f2).length c0_2] := by cases cs0; simpa using e0
  obtain ⟨a1, rfl, rfl, rfl, y1⟩ := open_string Tryd.underlying9 (hval 1 9 v1 rfl rfl) h1
  clear hA0 hval0
  obtain ⟨k, hp⟩ := Pure.zGF (x0.f0) (x0.f1) (x0.f2) a1 ok0.1 ok0.2.1 ok0.2.2 y1
  have hG : GI W := GI.of_laid zQQ (by simp [zQQ]) (by simp [zQQ]) (by simp [zQQ]) hL hsh
  refine (wL.calls k _ _ (x0.f0) _ _ (x0.f1) _ _ (x0.f2) a1 true W hr0_0 g0_0 hr0_1 g0_1 hr0_2 g0_2 hG hp).mono fun e W' ⟨he, bel⟩ => ?_
  subst he
  exact ⟨_, rfl, _, _, _, [], _, [], hW', trodAll_mk1 (shut_bool Tryd.underlying4 _), (trodAll_cons_mk (Below.trod laidOut (by kernel_rfl) (of_decide_eq_true (by kernel_rfl)) k0 bel lt0) (trodAll_cons_mk (shut_string Tryd.underlying9 y1) trodAll_mk0)), rfl, bel.frame _, fun h => by cases h⟩
theorem holds : Rows.CorrectTextsSaid :=
  OpenClaim.holds_of_wide 8 Tryd.f8 rfl rfl rfl rfl rfl rfl rfl ⟨rfl, rfl, rfl, rfl, rfl⟩ rfl rfl rfl rfl rfl (by kernel_rfl) Tryd.func8 (by kernel_rfl)
    (of_decide_eq_true (by kernel_rfl)) (by unfold Func.isWrapper; first | (rw [if_pos (by decide +kernel)]; kernel_rfl) | (rw [if_neg (by decide +kernel)]; exact ⟨rfl, rfl⟩))
    (fun os started H enc _ => lifted os started H enc)
theorem card : Rows.CorrectTextsCardSaid :=
  Claim7.holds_tied_plain_at .later [] [.data, .data, .data, .data, .sentinel, .sentinel, .pinned] true (true, "43761afd2ec77655b7605f986a4f9a4256ebde91a38a7a669bad47d42540965e") true
    holds (fun _ h => by cases h) (by kernel_rfl) (fun _ h => by cases h) correctTexts_row_tie rfl ⟨rfl, rfl⟩ (by kernel_rfl) rfl
    (fun f fn hf hfn => by
      obtain rfl : f = 8 := Option.some.inj ((show Tryd.prog.funcNamed "spile/spilelaw19.CorrectTexts" = some 8 by kernel_rfl).symm.trans hf) |>.symm
      obtain rfl : fn = Tryd.f8 := (Option.some.inj (Tryd.func8.symm.trans hfn)).symm
      exact ⟨by kernel_rfl, fun j t ht => by
        rw [Tryd.params8] at ht
        have hm : t ∈ [25, 9] := by simpa using Array.mem_of_getElem? ht
        have hall : ([25, 9].all fun u => !Tryd.prog.wantsStandIn u) = true := by kernel_rfl
        exact (show Tryd.prog.wantsStandIn t = false by simpa using List.all_eq_true.1 hall t hm)⟩)
    (by kernel_rfl)
end Go.Proofs.YtmdfnambaedllaaDoor.correctTexts
namespace Go.Proofs.YtmdfnambaedllaaDoor
/-- The card, under a short name, for the claim. -/
theorem correctTexts_holds : Rows.CorrectTextsCardSaid := correctTexts.card
#print axioms correctTexts_holds
end Go.Proofs.YtmdfnambaedllaaDoor
