/-
The law CaskBack returns true for every input that can be read as data, and leaves its arguments as they were: the row, and the card that ties the listed variables to the program's text.
No condition of its own beyond those that the given row prints.
-/
import Derived.HandedShaped
import Derived.Handed
import Derived.Test.YtnhmlneebnkjcaaDoorCards
import Derived.Test.YtnhmlneebnkjcaaDoorTie
import Derived.ProofKit
import Derived.OpenShut
import Derived.ShutString
import Derived.ChangeOld
import Derived.SizedLaws
import Derived.LaidMore
import Derived.Lay
import Derived.MakeChecks
import Derived.SevenTiedAt
import Derived.LaidSub
import Derived.LaidOnce
import Derived.Stop.Joined
import Derived.Stop.LaidErr
import Derived.Test.YtnhmlneebnkjcaaDoorCaskBackD
set_option linter.unusedVariables false
set_option linter.unusedSimpArgs false
namespace Go.Proofs.YtnhmlneebnkjcaaDoor.PL
open Go Go.RowKit Go.Proofs.YtnhmlneebnkjcaaDoorW.PrintWords Go.Proofs.YtnhmlneebnkjcaaDoorW.PrintLast Go.Proofs.YtnhmlneebnkjcaaDoorW.PrintMore Go.Proofs.YtnhmlneebnkjcaaDoor.Pr Go.Proofs.YtnhmlneebnkjcaaDoor.Opn Go.Proofs.YtnhmlneebnkjcaaDoor.TX Go.Proofs.YtnhmlneebnkjcaaDoor.X
theorem num_loop (s : ByteArray) (hs : (s.size : Int) ≤ 18) : ∀ i, 0 ≤ i → i ≤ (s.size : Int) → ∀ n : Nat, n + 1 ≤ 10 ^ i.toNat →
    Ev (fun k => cask_number.l0 k s (n : Int) (s.size : Int) i) (if (s.data.toList.drop i.toNat).all isDig = true then (((valFrom n (s.data.toList.drop i.toNat) : Nat) : Int), true) else (0, false)) := by
  refine count_up 0 (s.size : Int) _ ?_ ?_
  · intro n hn
    rw [drop_end]
    exact Ev.step (fun k => cask_number.l0.eq_2 ..) (evn (by omega) (evr (by rw [if_pos (show ([] : List UInt8).all isDig = true from rfl)]; rfl)))
  · intro i h0 h1 ih n hn
    obtain ⟨b, e1, _, e3⟩ := byte_at s h0 h1
    have hw : wrap64 (i + 1) = i + 1 := w64 (by omega) (by omega)
    refine Ev.step (fun k => cask_number.l0.eq_2 ..) (evp h1 (evp h0 (evp h1 ?_)))
    rw [e3, e1, hw]
    have hp : 10 ^ i.toNat ≤ 10 ^ 17 := Nat.pow_le_pow_right (by decide) (by omega)
    by_cases c1 : (b.toNat : Int) < 48
    · have hd : ¬ isDig b = true := fun h => by have := (isDig_iff b).1 h; omega
      rw [if_neg (by simp [hd])]
      exact evp c1 (Ev.now _)
    · by_cases c2 : (b.toNat : Int) > 57
      · have hd : ¬ isDig b = true := fun h => by have := (isDig_iff b).1 h; omega
        rw [if_neg (by simp [hd])]
        exact evn c1 (evp c2 (Ev.now _))
      · have hd : isDig b = true := (isDig_iff b).2 (by omega)
        have e : wrap64 ((wrap64 (10 * (n : Int))) + (((b.toNat : Int) - 48) % 256)) = ((10 * n + (b.toNat - 48) : Nat) : Int) := by
          rw [w64 (x := 10 * (n : Int)) (by omega) (by omega), w64 (by omega) (by omega)]; omega
        rw [e]
        have q := ih (10 * n + (b.toNat - 48)) (by
          rw [show (i + 1).toNat = i.toNat + 1 from by omega, Nat.pow_succ]; omega)
        have ea : ((b :: s.data.toList.drop (i + 1).toNat).all isDig = true) = ((s.data.toList.drop (i + 1).toNat).all isDig = true) := by
          rw [List.all_cons, hd, Bool.true_and]
        simp only [ea]
        exact evn c1 (evn c2 q)
theorem num_ev (s : ByteArray) : Ev (fun k => cask_number.f k s) (numR 10 s.data.toList) := by
  have hsz := size_data s
  have bad : ¬ (Canon s.data.toList ∧ s.data.toList.length ≤ 10) → numR 10 s.data.toList = (0, false) := fun h => by
    unfold numR numP; rw [if_neg h]
  by_cases c1 : (s.size : Int) < 1
  · rw [bad (fun h => by have := h.1.1; omega)]
    exact evp c1 (Ev.step (fun k => cask_number.j0.eq_2 ..) (evp rfl (Ev.now _)))
  by_cases c2 : (s.size : Int) > 10
  · rw [bad (fun h => by have := h.2; omega)]
    exact evn c1 (evp c2 (Ev.step (fun k => cask_number.j0.eq_2 ..) (evp rfl (Ev.now _))))
  have go : ¬ (1 < s.data.toList.length ∧ s.data.toList.head? = some 48) → Ev (fun k => cask_number.j0 k s false) (numR 10 s.data.toList) := by
    intro hh
    have q := num_loop s (by omega) 0 (by omega) (by omega) 0 (by decide)
    rw [show (0 : Int).toNat = 0 from rfl, List.drop_zero] at q
    refine Ev.step (fun k => cask_number.j0.eq_2 ..) (evn (by simp) ?_)
    by_cases hd : s.data.toList.all isDig = true
    · have hc : Canon s.data.toList ∧ s.data.toList.length ≤ 10 := ⟨⟨by omega, hh, hd⟩, by omega⟩
      rw [if_pos hd] at q
      have e : numR 10 s.data.toList = (((valFrom 0 s.data.toList : Nat) : Int), true) := by unfold numR numP; rw [if_pos hc]
      rw [e]
      exact q
    · rw [if_neg hd] at q
      rw [bad (fun h => hd h.1.2.2)]
      exact q
  by_cases c3 : (s.size : Int) > 1
  · obtain ⟨b, e1, _, e3⟩ := byte_at s (i := 0) (by omega) (by omega)
    rw [show (0 : Int).toNat = 0 from rfl, List.drop_zero] at e1
    refine evn c1 (evn c2 (evp c3 (evp (by omega) ?_)))
    rw [e3]
    by_cases c4 : b = 48
    · have e4 : ((b.toNat : Int) == 48) = true := by rw [beq_iff_eq]; exact (toNat_eq b 48 (by decide)).2 c4
      rw [e4, bad (fun h => h.1.2.1 ⟨by omega, by rw [e1]; simp [c4]⟩)]
      exact Ev.step (fun k => cask_number.j0.eq_2 ..) (evp rfl (Ev.now _))
    · have e4 : ((b.toNat : Int) == 48) = false := by rw [beq_eq_false_iff_ne]; exact fun h => c4 ((toNat_eq b 48 (by decide)).1 h)
      rw [e4]
      exact go (fun h => c4 (by have := h.2; rw [e1] at this; simpa using this))
  · exact evn c1 (evn c2 (evn c3 (go (fun h => by omega))))
theorem rnum_loop (s : ByteArray) (hs : (s.size : Int) ≤ 10) (r : Nat → Int × Bool) (hend : ∀ n : Nat, Ev (fun k => spileref09_Number.l0 k s (n : Int) (s.size : Int)) (r n)) : ∀ i, 0 ≤ i → i ≤ (s.size : Int) → ∀ n : Nat, n + 1 ≤ 10 ^ i.toNat →
    Ev (fun k => spileref09_Number.l0 k s (n : Int) i) (if (s.data.toList.drop i.toNat).all isDig = true then r (valFrom n (s.data.toList.drop i.toNat)) else (0, false)) := by
  refine count_up 0 (s.size : Int) _ ?_ ?_
  · intro n hn
    rw [drop_end, if_pos (show ([] : List UInt8).all isDig = true from rfl)]
    exact hend n
  · intro i h0 h1 ih n hn
    obtain ⟨b, e1, _, e3⟩ := byte_at s h0 h1
    have hw : wrap64 (i + 1) = i + 1 := w64 (by omega) (by omega)
    refine Ev.step (fun k => spileref09_Number.l0.eq_2 ..) (evp h1 (evp h0 ?_))
    rw [e3, e1]
    have hp : 10 ^ i.toNat ≤ 10 ^ 9 := Nat.pow_le_pow_right (by decide) (by omega)
    by_cases c1 : (b.toNat : Int) < 48
    · have hd : ¬ isDig b = true := fun h => by have := (isDig_iff b).1 h; omega
      rw [if_neg (by simp [hd])]
      exact evp c1 (Ev.step (fun k => spileref09_Number.j1.eq_2 ..) (evp rfl (Ev.now _)))
    · by_cases c2 : (b.toNat : Int) > 57
      · have hd : ¬ isDig b = true := fun h => by have := (isDig_iff b).1 h; omega
        rw [if_neg (by simp [hd])]
        exact evn c1 (Ev.step (fun k => spileref09_Number.j1.eq_2 ..) (evp (decide_eq_true c2) (Ev.now _)))
      · have hd : isDig b = true := (isDig_iff b).2 (by omega)
        have e : wrap64 ((wrap64 (10 * (n : Int))) + (((b.toNat : Int) - 48) % 256)) = ((10 * n + (b.toNat - 48) : Nat) : Int) := by
          rw [w64 (x := 10 * (n : Int)) (by omega) (by omega), w64 (by omega) (by omega)]; omega
        have q := ih (10 * n + (b.toNat - 48)) (by
          rw [show (i + 1).toNat = i.toNat + 1 from by omega, Nat.pow_succ]; omega)
        have ea : ((b :: s.data.toList.drop (i + 1).toNat).all isDig = true) = ((s.data.toList.drop (i + 1).toNat).all isDig = true) := by
          rw [List.all_cons, hd, Bool.true_and]
        simp only [ea]
        refine evn c1 (Ev.step (fun k => spileref09_Number.j1.eq_2 ..) (evn (by simpa using c2) (evp (by omega) (evp h0 (evp h1 ?_)))))
        rw [e3, hw, e]
        exact q
theorem rnum_long (s : ByteArray) (hs : (s.size : Int) ≤ 9223372036854775807) (hend : ∀ n : Int, Ev (fun k => spileref09_Number.l0 k s n (s.size : Int)) (n, false)) : ∀ i, 0 ≤ i → i ≤ (s.size : Int) → ∀ n : Int, ∃ v, Ev (fun k => spileref09_Number.l0 k s n i) (v, false) := by
  refine count_up 0 (s.size : Int) _ ?_ ?_
  · exact fun n => ⟨n, hend n⟩
  · intro i h0 h1 ih n
    by_cases c1 : bt s i < 48
    · exact ⟨0, Ev.step (fun k => spileref09_Number.l0.eq_2 ..) (evp h1 (evp h0 (evp c1 (Ev.step (fun k => spileref09_Number.j1.eq_2 ..) (evp rfl (Ev.now _))))))⟩
    · by_cases c2 : bt s i > 57
      · exact ⟨0, Ev.step (fun k => spileref09_Number.l0.eq_2 ..) (evp h1 (evp h0 (evn c1 (Ev.step (fun k => spileref09_Number.j1.eq_2 ..) (evp (decide_eq_true c2) (Ev.now _))))))⟩
      · by_cases c3 : i < 10
        · obtain ⟨v, hv⟩ := ih (wrap64 ((wrap64 (10 * n)) + (((bt s i) - 48) % 256)))
          rw [← w64_succ h0 h1 hs] at hv
          exact ⟨v, Ev.step (fun k => spileref09_Number.l0.eq_2 ..) (evp h1 (evp h0 (evn c1 (Ev.step (fun k => spileref09_Number.j1.eq_2 ..) (evn (by simpa using c2) (evp c3 (evp h0 (evp h1 hv))))))))⟩
        · obtain ⟨v, hv⟩ := ih n
          rw [← w64_succ h0 h1 hs] at hv
          exact ⟨v, Ev.step (fun k => spileref09_Number.l0.eq_2 ..) (evp h1 (evp h0 (evn c1 (Ev.step (fun k => spileref09_Number.j1.eq_2 ..) (evn (by simpa using c2) (evn c3 hv))))))⟩
theorem rnum_ev (s : ByteArray) (hs : (s.size : Int) ≤ 9223372036854775807) : ∃ v, Ev (fun k => spileref09_Number.f k s) (v, (numP 10 s.data.toList).isSome) ∧ ∀ u, numP 10 s.data.toList = some u → v = (u : Int) := by
  have hsz := size_data s
  have bad : ¬ (Canon s.data.toList ∧ s.data.toList.length ≤ 10) → numP 10 s.data.toList = none := fun h => by
    unfold numP; rw [if_neg h]
  by_cases c1 : (s.size : Int) ≥ 1
  case neg =>
    obtain ⟨v, hv⟩ := rnum_long s hs (fun n => Ev.step (fun k => spileref09_Number.l0.eq_2 ..) (evn (by omega) (evn c1 (Ev.now _)))) 0 (by omega) (by omega) 0
    have e := bad (fun h => by have := h.1.1; omega)
    rw [e]
    exact ⟨v, hv, fun u h => by cases h⟩
  by_cases c2 : (s.size : Int) ≤ 10
  case neg =>
    obtain ⟨v, hv⟩ := rnum_long s hs (fun n => Ev.step (fun k => spileref09_Number.l0.eq_2 ..) (evn (by omega) (evp c1 (evn c2 (Ev.now _))))) 0 (by omega) (by omega) 0
    have e := bad (fun h => by have := h.2; omega)
    rw [e]
    exact ⟨v, hv, fun u h => by cases h⟩
  obtain ⟨b, e1, _, e3⟩ := byte_at s (i := 0) (by omega) (by omega)
  rw [show (0 : Int).toNat = 0 from rfl, List.drop_zero] at e1
  have hend : ∀ n : Nat, Ev (fun k => spileref09_Number.l0 k s (n : Int) (s.size : Int)) ((n : Int), decide ((s.size : Int) = 1 ∨ b ≠ 48)) := by
    intro n
    refine Ev.step (fun k => spileref09_Number.l0.eq_2 ..) (evn (by omega) (evp c1 (evp c2 ?_)))
    by_cases c3 : (s.size : Int) = 1
    · rw [decide_eq_true (.inl c3)]
      exact evp c3 (Ev.now _)
    · refine evn c3 (evp (by omega) (evr ?_))
      rw [e3]
      refine congrArg (Prod.mk (n : Int)) ?_
      by_cases c4 : b = 48
      · rw [decide_eq_false (by rintro (z | z); exact c3 z; exact z c4), c4]; rfl
      · rw [decide_eq_true (.inr c4)]
        rw [bne_iff_ne]
        exact fun h => c4 ((toNat_eq b 48 (by decide)).1 h)
  have q := rnum_loop s c2 _ hend 0 (by omega) (by omega) 0 (by decide)
  rw [show (0 : Int).toNat = 0 from rfl, List.drop_zero] at q
  by_cases hd : s.data.toList.all isDig = true
  · rw [if_pos hd] at q
    by_cases hh : (s.size : Int) = 1 ∨ b ≠ 48
    · have hc : Canon s.data.toList ∧ s.data.toList.length ≤ 10 := ⟨⟨by omega, fun z => by
        rcases hh with h | h
        · have := z.1; omega
        · have := z.2; rw [e1] at this; exact h (by simpa using this), hd⟩, by omega⟩
      rw [decide_eq_true hh] at q
      have e : numP 10 s.data.toList = some (valFrom 0 s.data.toList) := by unfold numP; rw [if_pos hc]
      rw [e]
      exact ⟨_, q, fun u h => by cases h; rfl⟩
    · rw [decide_eq_false hh] at q
      have e := bad (fun h => hh (by
        by_cases c3 : (s.size : Int) = 1
        · exact .inl c3
        · exact .inr (fun z => h.1.2.1 ⟨by omega, by rw [e1, z]; rfl⟩)))
      rw [e]
      exact ⟨_, q, fun u h => by cases h⟩
  · rw [if_neg hd] at q
    have e := bad (fun h => hd h.1.2.2)
    rw [e]
    exact ⟨_, q, fun u h => by cases h⟩
theorem words9_ev (s : ByteArray) (hs : (s.size : Int) ≤ 4611686018427) : Ev (fun k => spileref09_Words.f k s) (if ([] : List UInt8) ∈ parts 32 s.data.toList then ([], false) else ((parts 32 s.data.toList).map ba, true)) := by
  have key : ∀ i, 0 ≤ i → i ≤ (s.size : Int) → ∀ (out : List ByteArray) (fr : Int), 0 ≤ fr → fr ≤ i → (out.length : Int) ≤ i →
      Ev (fun k => spileref09_Words.l0 k s out fr i) (if ([] : List UInt8) ∈ wrd 32 ((s.data.toList.take i.toNat).drop fr.toNat) (s.data.toList.drop i.toNat) then ([], false) else (out ++ (wrd 32 ((s.data.toList.take i.toNat).drop fr.toNat) (s.data.toList.drop i.toNat)).map ba, true)) := by
    refine count_up 0 (s.size : Int) _ ?_ ?_
    · intro out fr h0 h1 h2
      rw [drop_end, take_end]
      refine Ev.step (fun k => spileref09_Words.l0.eq_2 ..) (evp (by omega) (evp rfl (Ev.step (fun k => spileref09_Words.j1.eq_2 ..) (evp rfl ?_))))
      by_cases c : (s.size : Int) = fr
      · have he : s.data.toList.drop fr.toNat = [] := List.drop_eq_nil_of_le (by rw [size_data]; omega)
        rw [he]
        exact evp c (Ev.now _)
      · have hne : ¬ s.data.toList.drop fr.toNat = [] := fun e => by
          have := congrArg List.length e
          rw [List.length_drop, size_data] at this
          simp at this; omega
        have hm : ¬ ([] : List UInt8) ∈ wrd 32 (s.data.toList.drop fr.toNat) [] := fun h => by
          simp only [wrd, List.mem_singleton] at h
          exact hne h.symm
        rw [if_neg hm]
        refine evn c (evp h0 (evp h1 (evp (by omega) (evp (by omega) (Ev.step (fun k => spileref09_Words.l0.eq_2 ..) (evn ?_ (evr ?_)))))))
        · rw [w64 (by omega) (by omega)]; omega
        · rw [ba_ex, take_end]; rfl
    · intro i h0 h1 ih out fr g0 g1 g2
      obtain ⟨b, e1, e2, e3⟩ := byte_at s h0 h1
      have hw : wrap64 (i + 1) = i + 1 := w64 (by omega) (by omega)
      have hlen : fr.toNat ≤ (s.data.toList.take i.toNat).length := by rw [List.length_take, size_data]; omega
      refine Ev.step (fun k => spileref09_Words.l0.eq_2 ..) (evp (by omega) (evn (by omega) (evp h0 (evp h1 ?_))))
      rw [e1, wrd_cons, e3]
      by_cases c : b = 32
      · rw [if_pos c, show ((b.toNat : Int) == 32) = true from beq_iff_eq.2 ((toNat_eq b 32 (by decide)).2 c)]
        refine Ev.step (fun k => spileref09_Words.j1.eq_2 ..) (evp rfl ?_)
        rw [hw]
        by_cases d : i = fr
        · have he : (s.data.toList.take i.toNat).drop fr.toNat = [] := List.drop_eq_nil_of_le (by rw [List.length_take]; omega)
          rw [he, if_pos (List.mem_cons_self ..)]
          exact evp d (Ev.now _)
        · have hne : ¬ ([] : List UInt8) = (s.data.toList.take i.toNat).drop fr.toNat := fun e => by
            have := congrArg List.length e
            rw [List.length_drop, List.length_take, size_data] at this
            simp at this; omega
          have q := ih (out ++ [s.extract fr.toNat i.toNat]) (i + 1) (by omega) (by omega) (by rw [List.length_append]; simp; omega)
          have z : (s.data.toList.take (i + 1).toNat).drop (i + 1).toNat = [] := List.drop_eq_nil_of_le (by rw [List.length_take]; omega)
          rw [z, List.append_assoc] at q
          have em : (([] : List UInt8) ∈ (s.data.toList.take i.toNat).drop fr.toNat :: wrd 32 [] (s.data.toList.drop (i + 1).toNat)) = (([] : List UInt8) ∈ wrd 32 [] (s.data.toList.drop (i + 1).toNat)) :=
            propext ⟨fun h => (List.mem_cons.1 h).resolve_left hne, fun h => List.mem_cons_of_mem _ h⟩
          simp only [em]
          refine evn d (evp g0 (evp g1 (evp (by omega) (evp (by omega) ?_))))
          rw [ba_ex] at q ⊢
          exact q
      · have q := ih out fr g0 (by omega) (by omega)
        rw [e2, List.drop_append_of_le_length hlen] at q
        rw [if_neg c, show ((b.toNat : Int) == 32) = false from beq_eq_false_iff_ne.2 (fun h => c ((toNat_eq b 32 (by decide)).1 h))]
        refine Ev.step (fun k => spileref09_Words.j1.eq_2 ..) (evn (by decide) ?_)
        rw [hw]
        exact q
  have := key 0 (by omega) (by omega) [] 0 (by omega) (by omega) (by simp)
  rw [show (0 : Int).toNat = 0 from rfl, List.take_zero, List.drop_zero, List.drop_zero, wrd_parts, List.nil_append] at this
  exact this
def cCask : List UInt8 := [99, 97, 115, 107]
def cDecl : List UInt8 := [100, 101, 99, 108, 97, 114, 101, 100]
def cAt : List UInt8 := [97, 116]
def cRad : List UInt8 := [114, 97, 100, 105, 117, 115]
def cEnd : List UInt8 := [101, 110, 100]
def cLying : List UInt8 := [108, 121, 105, 110, 103]
def cStand : List UInt8 := [115, 116, 97, 110, 100, 105, 110, 103]
def posL (p : List UInt8) : Option Int := if p = cLying then some 1 else if p = cStand then some 2 else none
def outL : List (List UInt8) → Option S27
  | [a, b, c, d, e] => if a = cCask ∧ b ≠ [] ∧ d = cDecl then (match posL c with
    | none => none
    | some p => match numP 10 e with
      | none => none
      | some v => some ⟨ba b, p, [], (v : Int)⟩) else none
  | _ => none
def inL : List (List UInt8) → Option S46
  | [a, b, c, d] => if a = cAt ∧ c = cRad then (match numP 10 b with
    | none => none
    | some x => match numP 10 d with
      | none => none
      | some r => some ⟨(x : Int), (r : Int)⟩) else none
  | _ => none
theorem outL5 (a b c d e : List UInt8) : outL [a, b, c, d, e] = if a = cCask ∧ b ≠ [] ∧ d = cDecl then (match posL c with
    | none => none
    | some p => match numP 10 e with
      | none => none
      | some v => some ⟨ba b, p, [], (v : Int)⟩) else none := rfl
theorem inL4 (a b c d : List UInt8) : inL [a, b, c, d] = if a = cAt ∧ c = cRad then (match numP 10 b with
    | none => none
    | some x => match numP 10 d with
      | none => none
      | some r => some ⟨(x : Int), (r : Int)⟩) else none := rfl
theorem numP_nil : numP 10 [] = none := by decide
theorem posL_nil : posL [] = none := by decide
theorem outL_nil {ws : List (List UInt8)} (h : [] ∈ ws) : outL ws = none := by
  unfold outL
  split
  · rename_i a b c d e
    split
    · rename_i hc
      obtain ⟨rfl, hb, rfl⟩ := hc
      simp only [List.mem_cons, List.not_mem_nil, or_false] at h
      rcases h with h | h | h | h | h
      · cases h
      · exact absurd h.symm hb
      · rw [← h, posL_nil]
      · cases h
      · rw [← h, numP_nil]
        cases posL c <;> rfl
    · rfl
  · rfl
theorem inL_nil {ws : List (List UInt8)} (h : [] ∈ ws) : inL ws = none := by
  unfold inL
  split
  · rename_i a b c d
    split
    · rename_i hc
      obtain ⟨rfl, rfl⟩ := hc
      simp only [List.mem_cons, List.not_mem_nil, or_false] at h
      rcases h with h | h | h | h
      · cases h
      · rw [← h, numP_nil]
      · cases h
      · rw [← h, numP_nil]
        cases numP 10 b <;> rfl
    · rfl
  · rfl
theorem outL_len {ws : List (List UInt8)} (h : ws.length ≠ 5) : outL ws = none := by
  unfold outL
  split
  · exact absurd rfl h
  · rfl
theorem inL_len {ws : List (List UInt8)} (h : ws.length ≠ 4) : inL ws = none := by
  unfold inL
  split
  · exact absurd rfl h
  · rfl
theorem five {ws : List (List UInt8)} (h : ws.length = 5) : ∃ a b c d e, ws = [a, b, c, d, e] := by
  match ws, h with
  | [a, b, c, d, e], _ => exact ⟨a, b, c, d, e, rfl⟩
theorem four {ws : List (List UInt8)} (h : ws.length = 4) : ∃ a b c d, ws = [a, b, c, d] := by
  match ws, h with
  | [a, b, c, d], _ => exact ⟨a, b, c, d, rfl⟩
theorem pos_ba (p : List UInt8) : cask_outside.pos (ba p) = posL p := by
  show lastAt none cask_words.tbl p = posL p
  unfold cask_words.tbl posL
  simp only [lastAt]
  by_cases c1 : p = cLying
  · subst c1; rfl
  · have n1 : ¬ ([108, 121, 105, 110, 103] : List UInt8) = p := fun h => c1 h.symm
    rw [if_neg n1, if_neg c1]
    by_cases c2 : p = cStand
    · subst c2; rfl
    · have n2 : ¬ ([115, 116, 97, 110, 100, 105, 110, 103] : List UInt8) = p := fun h => c2 h.symm
      rw [if_neg n2, if_neg c2]
theorem outside_ev (ws : List (List UInt8)) (hw : ∀ w, w ∈ ws → w.length ≤ 100000) : Ev (fun k => cask_outside.f k (ws.map ba)) (outL ws) := by
  by_cases h5 : ws.length = 5
  case neg =>
    rw [outL_len h5]
    exact evn (fun h => h5 (by simpa using h.1)) (Ev.now _)
  obtain ⟨a, b, c, d, e, rfl⟩ := five h5
  unfold cask_outside.f
  have r0 : rdOf ByteArray.empty ([a, b, c, d, e].map ba) 0 = ba a := rfl
  have r1 : rdOf ByteArray.empty ([a, b, c, d, e].map ba) 1 = ba b := rfl
  have r2 : rdOf ByteArray.empty ([a, b, c, d, e].map ba) 2 = ba c := rfl
  have r3 : rdOf ByteArray.empty ([a, b, c, d, e].map ba) 3 = ba d := rfl
  have r4 : rdOf ByteArray.empty ([a, b, c, d, e].map ba) 4 = ba e := rfl
  rw [r0, r1, r2, r3, r4, ba_toList, ba_toList, ba_toList, pos_ba]
  rw [outL5]
  by_cases hc : a = cCask ∧ b ≠ [] ∧ d = cDecl
  case neg =>
    rw [if_neg hc]
    exact evn (fun h => hc ⟨h.2.1, h.2.2.1, h.2.2.2⟩) (Ev.now _)
  rw [if_pos hc]
  have hn := num_ev (ba e)
  rw [ba_list] at hn
  refine evp ⟨rfl, hc⟩ (evp (by rw [ba_size]; exact hw c (by simp)) (evb hn (evr ?_)))
  cases posL c with
  | none => rfl
  | some p =>
    unfold numR
    cases numP 10 e with
    | none => rfl
    | some v => rfl
theorem inside_ev (ws : List (List UInt8)) : Ev (fun k => cask_inside.f k (ws.map ba)) (inL ws) := by
  by_cases h4 : ws.length = 4
  case neg =>
    rw [inL_len h4]
    exact evn (fun h => h4 (by simpa using h.1)) (Ev.now _)
  obtain ⟨a, b, c, d, rfl⟩ := four h4
  unfold cask_inside.f
  have r0 : rdOf ByteArray.empty ([a, b, c, d].map ba) 0 = ba a := rfl
  have r1 : rdOf ByteArray.empty ([a, b, c, d].map ba) 1 = ba b := rfl
  have r2 : rdOf ByteArray.empty ([a, b, c, d].map ba) 2 = ba c := rfl
  have r3 : rdOf ByteArray.empty ([a, b, c, d].map ba) 3 = ba d := rfl
  rw [r0, r1, r2, r3, ba_toList, ba_toList]
  rw [inL4]
  by_cases hc : a = cAt ∧ c = cRad
  case neg =>
    rw [if_neg hc]
    exact evn (fun h => hc ⟨h.2.1, h.2.2⟩) (Ev.now _)
  rw [if_pos hc]
  have hb := num_ev (ba b)
  have hd := num_ev (ba d)
  rw [ba_list] at hb hd
  refine evp ⟨rfl, hc⟩ (evb hb (evb hd (evr ?_)))
  unfold numR
  cases numP 10 b with
  | none => cases numP 10 d <;> rfl
  | some x =>
    cases numP 10 d with
    | none => rfl
    | some r => rfl
def headR (r : ByteArray × Int × List S46 × Int × Bool) : Option S27 → Prop
  | some q => r = (q.f0, q.f1, q.f2, q.f3, true)
  | none => r.2.2.2.2 = false
theorem head_ev (ws : List (List UInt8)) (hn : [] ∉ ws) (hw : ∀ w, w ∈ ws → w.length ≤ 100000) : ∃ r, Ev (fun k => spileref09_head.f k (ws.map ba)) r ∧ headR r (outL ws) := by
  have jt : Ev (fun k => spileref09_head.j0 k (ws.map ba) true) ((⟨#[]⟩ : ByteArray), 0, [], 0, false) := Ev.step (fun k => spileref09_head.j0.eq_2 ..) (evp rfl (Ev.now _))
  by_cases h5 : ws.length = 5
  case neg =>
    rw [outL_len h5]
    exact ⟨_, evn (fun h => h5 (by rw [List.length_map] at h; omega)) jt, rfl⟩
  obtain ⟨a, b, c, d, e, rfl⟩ := five h5
  have r0 : rdOf ByteArray.empty ([a, b, c, d, e].map ba) 0 = ba a := rfl
  have r1 : rdOf ByteArray.empty ([a, b, c, d, e].map ba) 1 = ba b := rfl
  have r2 : rdOf ByteArray.empty ([a, b, c, d, e].map ba) 2 = ba c := rfl
  have r3 : rdOf ByteArray.empty ([a, b, c, d, e].map ba) 3 = ba d := rfl
  have r4 : rdOf ByteArray.empty ([a, b, c, d, e].map ba) 4 = ba e := rfl
  have hl : (([a, b, c, d, e].map ba).length : Int) = 5 := by simp
  have hb : b ≠ [] := fun h => hn (by simp [h])
  rw [outL5]
  by_cases ca : a = cCask
  case neg =>
    rw [if_neg (fun h => ca h.1)]
    exact ⟨((⟨#[]⟩ : ByteArray), 0, [], 0, false), evp hl (evp (by omega) (by rw [r0, ba_toList]; exact evn ca jt)), rfl⟩
  have tail : ∀ p, posL c = some p → ∃ r, Ev (fun k => if 3 < (([a, b, c, d, e].map ba).length : Int) then spileref09_head.j0 k ([a, b, c, d, e].map ba) ((rdOf ByteArray.empty ([a, b, c, d, e].map ba) 3).toList != ([100, 101, 99, 108, 97, 114, 101, 100] : List UInt8)) else none) r ∧
      headR r (if a = cCask ∧ b ≠ [] ∧ d = cDecl then (match posL c with
    | none => none
    | some p => match numP 10 e with
      | none => none
      | some v => some ⟨ba b, p, [], (v : Int)⟩) else none) := by
    intro p hp
    rw [r3, ba_toList, hp]
    by_cases cd : d = cDecl
    case neg =>
      rw [if_neg (fun h => cd h.2.2), show (d != ([100, 101, 99, 108, 97, 114, 101, 100] : List UInt8)) = true from bne_iff_ne.2 cd]
      exact ⟨_, evp (by omega) jt, rfl⟩
    rw [if_pos ⟨ca, hb, cd⟩, show (d != ([100, 101, 99, 108, 97, 114, 101, 100] : List UInt8)) = false from by rw [cd]; rfl]
    obtain ⟨v, hv, hu⟩ := rnum_ev (ba e) (by rw [ba_size]; have := hw e (by simp); omega)
    rw [ba_list] at hv hu
    have hj : ∃ q, (q = 1 ∨ q = 2) ∧ posL c = some q ∧ Ev (fun k => spileref09_head.j0 k ([a, b, c, d, e].map ba) false) (ba b, q, [], v, (numP 10 e).isSome) := by
      unfold posL at hp ⊢
      by_cases c1 : c = cLying
      · rw [if_pos c1]
        refine ⟨1, .inl rfl, rfl, Ev.step (fun k => spileref09_head.j0.eq_2 ..) (evn (by decide) (evp (by omega) ?_))⟩
        rw [r4, r1, r2, ba_toList]
        exact evb hv (evp (by omega) (evp (by omega) (evp c1 (Ev.now _))))
      · rw [if_neg c1] at hp ⊢
        by_cases c2 : c = cStand
        · rw [if_pos c2]
          refine ⟨2, .inr rfl, rfl, Ev.step (fun k => spileref09_head.j0.eq_2 ..) (evn (by decide) (evp (by omega) ?_))⟩
          rw [r4, r1, r2, ba_toList]
          exact evb hv (evp (by omega) (evp (by omega) (evn c1 (Ev.now _))))
        · rw [if_neg c2] at hp; cases hp
    obtain ⟨q, _, hq, hj⟩ := hj
    rw [hp] at hq
    cases hq
    refine ⟨_, evp (by omega) hj, ?_⟩
    cases he : numP 10 e with
    | none => rfl
    | some u => rw [hu u he]; rfl
  by_cases c1 : c = cLying
  · obtain ⟨r, h1, h2⟩ := tail 1 (by unfold posL; rw [if_pos c1])
    refine ⟨r, evp hl (evp (by omega) ?_), h2⟩
    rw [r0, r2, ba_toList, ba_toList]
    exact evp ca (evp (by omega) (evp c1 h1))
  · by_cases c2 : c = cStand
    · obtain ⟨r, h1, h2⟩ := tail 2 (by unfold posL; rw [if_neg c1, if_pos c2])
      refine ⟨r, evp hl (evp (by omega) ?_), h2⟩
      rw [r0, r2, ba_toList, ba_toList]
      exact evp ca (evp (by omega) (evn c1 (evp c2 h1)))
    · have hp : posL c = none := by unfold posL; rw [if_neg c1, if_neg c2]
      rw [hp]
      refine ⟨_, evp hl (evp (by omega) (by rw [r0, r2, ba_toList, ba_toList]; exact evp ca (evp (by omega) (evn c1 (evn c2 jt))))), ?_⟩
      split <;> rfl
def pointR (r : Int × Int × Bool) : Option S46 → Prop
  | some q => r = (q.f0, q.f1, true)
  | none => r.2.2 = false
theorem point_ev (ws : List (List UInt8)) (hw : ∀ w, w ∈ ws → w.length ≤ 100000) : ∃ r, Ev (fun k => spileref09_point.f k (ws.map ba)) r ∧ pointR r (inL ws) := by
  have jt : Ev (fun k => spileref09_point.j0 k (ws.map ba) true) ((0 : Int), (0 : Int), false) := Ev.step (fun k => spileref09_point.j0.eq_2 ..) (evp rfl (Ev.now _))
  by_cases h4 : ws.length = 4
  case neg =>
    rw [inL_len h4]
    exact ⟨_, evn (fun h => h4 (by rw [List.length_map] at h; omega)) jt, rfl⟩
  obtain ⟨a, b, c, d, rfl⟩ := four h4
  have r0 : rdOf ByteArray.empty ([a, b, c, d].map ba) 0 = ba a := rfl
  have r1 : rdOf ByteArray.empty ([a, b, c, d].map ba) 1 = ba b := rfl
  have r2 : rdOf ByteArray.empty ([a, b, c, d].map ba) 2 = ba c := rfl
  have r3 : rdOf ByteArray.empty ([a, b, c, d].map ba) 3 = ba d := rfl
  have hl : (([a, b, c, d].map ba).length : Int) = 4 := by simp
  rw [inL4]
  by_cases ca : a = cAt
  case neg =>
    rw [if_neg (fun h => ca h.1)]
    exact ⟨(0, 0, false), evp hl (evp (by omega) (by rw [r0, ba_toList]; exact evn ca jt)), rfl⟩
  by_cases cc : c = cRad
  case neg =>
    rw [if_neg (fun h => cc h.2)]
    refine ⟨(0, 0, false), evp hl (evp (by omega) ?_), rfl⟩
    · rw [r0, r2, ba_toList, ba_toList, show (c != ([114, 97, 100, 105, 117, 115] : List UInt8)) = true from bne_iff_ne.2 cc]
      exact evp ca (evp (by omega) jt)
  rw [if_pos ⟨ca, cc⟩]
  obtain ⟨v, hv, hu⟩ := rnum_ev (ba b) (by rw [ba_size]; have := hw b (by simp); omega)
  obtain ⟨v2, hv2, hu2⟩ := rnum_ev (ba d) (by rw [ba_size]; have := hw d (by simp); omega)
  rw [ba_list] at hv hu hv2 hu2
  have pre : ∀ r, Ev (fun _ : Nat => if (numP 10 b).isSome = true then some (v, v2, (numP 10 d).isSome) else some (v, v2, false)) r → Ev (fun k => spileref09_point.f k ([a, b, c, d].map ba)) r := by
    intro r hr
    refine evp hl (evp (by omega) ?_)
    rw [r0, r2, ba_toList, ba_toList, show (c != ([114, 97, 100, 105, 117, 115] : List UInt8)) = false from by rw [cc]; rfl]
    refine evp ca (evp (by omega) (Ev.step (fun k => spileref09_point.j0.eq_2 ..) (evn (by decide) (evp (by omega) ?_))))
    rw [r1, r3]
    exact evb hv (evp (by omega) (evb hv2 hr))
  cases hb : numP 10 b with
  | none =>
    rw [hb] at pre
    exact ⟨_, pre _ (evn (by decide) (Ev.now _)), rfl⟩
  | some x =>
    rw [hb] at pre
    refine ⟨_, pre _ (evp rfl (Ev.now _)), ?_⟩
    rw [hu x hb]
    cases hd : numP 10 d with
    | none => rfl
    | some y => rw [hu2 y hd]; rfl
end Go.Proofs.YtnhmlneebnkjcaaDoor.PL
namespace Go.Proofs.YtnhmlneebnkjcaaDoor.PL
open Go Go.RowKit Go.Proofs.YtnhmlneebnkjcaaDoorW.PrintWords Go.Proofs.YtnhmlneebnkjcaaDoorW.PrintLast Go.Proofs.YtnhmlneebnkjcaaDoorW.PrintMore Go.Proofs.YtnhmlneebnkjcaaDoor.Pr Go.Proofs.YtnhmlneebnkjcaaDoor.Opn Go.Proofs.YtnhmlneebnkjcaaDoor.TX Go.Proofs.YtnhmlneebnkjcaaDoor.X
/-- What the lines of a text come to, from a state. -/
def runC (e : Bool) : List (List UInt8) → Nat → Bool → List S27 → Except Nat (List S27)
  | [], n, o, acc => if o = true then .error n else .ok acc
  | l :: r, n, o, acc => if r = [] ∧ e = false then .error n else if o = true ∧ l = cEnd then runC e r (n + 1) false acc
      else if o = true then (match inL (parts 32 l) with
        | none => .error n
        | some q => runC e r (n + 1) true (addPt acc q))
      else (match outL (parts 32 l) with
        | none => .error n
        | some q => runC e r (n + 1) true (acc ++ [q]))
theorem runC_cons (e : Bool) (l : List UInt8) (r : List (List UInt8)) (n : Nat) (o : Bool) (acc : List S27) : runC e (l :: r) n o acc = if r = [] ∧ e = false then .error n else if o = true ∧ l = cEnd then runC e r (n + 1) false acc
      else if o = true then (match inL (parts 32 l) with
        | none => .error n
        | some q => runC e r (n + 1) true (addPt acc q))
      else (match outL (parts 32 l) with
        | none => .error n
        | some q => runC e r (n + 1) true (acc ++ [q])) := rfl
def EndsP : Except Nat (List S27) → List S27 × Int × Int → Prop
  | .error n, r => r = ([], (n : Int), 3)
  | .ok acc, r => SmL acc ∧ ∃ e, Ev (fun k => cask_List.f k acc) e ∧ r = if e = 0 then (acc, 0, 0) else ([], 0, e)
theorem EndsP.uniq {x : Except Nat (List S27)} {r s : List S27 × Int × Int} (h : EndsP x r) (g : EndsP x s) : r = s := by
  cases x with
  | error n => exact h.trans g.symm
  | ok acc =>
    obtain ⟨_, e, e1, rfl⟩ := h
    obtain ⟨_, f, f1, rfl⟩ := g
    rw [ev_unique e1 f1]
def InvA (acc : List S27) (n : Nat) : Prop := acc.length ≤ n ∧ ∀ x, x ∈ acc → x.f0.size ≤ 70000 ∧ x.f2.length ≤ n
theorem InvA.sm {acc : List S27} {n : Nat} (h : InvA acc n) (hn : n ≤ 200000) : SmL acc := ⟨by have := h.1; omega, fun x hx => ⟨by have := (h.2 x hx).1; omega, by have := (h.2 x hx).2; omega⟩⟩
theorem InvA.up {acc : List S27} {n : Nat} (h : InvA acc n) : InvA acc (n + 1) := ⟨Nat.le_succ_of_le h.1, fun x hx => ⟨(h.2 x hx).1, Nat.le_succ_of_le (h.2 x hx).2⟩⟩
theorem part_le (c : UInt8) : ∀ s p : List UInt8, p ∈ parts c s → p.length ≤ s.length
  | [], p, h => by simp [parts] at h; simp [h]
  | b :: r, p, h => by
    rw [parts_cons] at h
    by_cases e : b = c
    · rw [if_pos e] at h
      rcases List.mem_cons.1 h with h | h
      · simp [h]
      · have := part_le c r p h; simp; omega
    · rw [if_neg e] at h
      cases hp : parts c r with
      | nil => exact absurd hp (parts_ne c r)
      | cons q t =>
        rw [hp] at h
        rcases List.mem_cons.1 h with h | h
        · have := part_le c r q (by rw [hp]; simp)
          rw [h]; simp; omega
        · have := part_le c r p (by rw [hp]; exact List.mem_cons_of_mem _ h); simp; omega
theorem outL_some {ws : List (List UInt8)} {q : S27} (h : outL ws = some q) : ∃ a b c d e v, ws = [a, b, c, d, e] ∧ a = cCask ∧ b ≠ [] ∧ d = cDecl ∧ posL c = some q.f1 ∧ numP 10 e = some v ∧ q = ⟨ba b, q.f1, [], (v : Int)⟩ := by
  by_cases h5 : ws.length = 5
  case neg => rw [outL_len h5] at h; cases h
  obtain ⟨a, b, c, d, e, rfl⟩ := five h5
  rw [outL5] at h
  by_cases hc : a = cCask ∧ b ≠ [] ∧ d = cDecl
  case neg => rw [if_neg hc] at h; cases h
  rw [if_pos hc] at h
  cases hp : posL c with
  | none => rw [hp] at h; cases h
  | some p =>
    rw [hp] at h
    cases hn : numP 10 e with
    | none => rw [hn] at h; cases h
    | some v =>
      rw [hn] at h
      cases h
      exact ⟨a, b, c, d, e, v, rfl, hc.1, hc.2.1, hc.2.2, hp, hn, rfl⟩
theorem InvA.out {acc : List S27} {n : Nat} {l : List UInt8} {q : S27} (h : InvA acc n) (hq : outL (parts 32 l) = some q) (hl : l.length ≤ 70000) : InvA (acc ++ [q]) (n + 1) := by
  obtain ⟨a, b, c, d, e, v, hw, _, _, _, _, _, hq2⟩ := outL_some hq
  have hb := part_le 32 l b (by rw [hw]; simp)
  refine ⟨by rw [List.length_append]; have := h.1; simp; omega, fun x hx => ?_⟩
  rcases List.mem_append.1 hx with hx | hx
  · have := h.2 x hx; exact ⟨this.1, by omega⟩
  · rw [List.mem_singleton] at hx
    rw [hx, hq2]
    exact ⟨by show (ba b).size ≤ _; rw [ba_size]; omega, by simp⟩
theorem InvA.pt {acc : List S27} {n : Nat} (h : InvA acc n) (p : S46) (hne : acc ≠ []) : InvA (addPt acc p) (n + 1) := by
  have hl : 0 < acc.length := List.length_pos_iff.2 hne
  unfold addPt
  refine ⟨by rw [List.length_set]; have := h.1; omega, fun x hx => ?_⟩
  rcases List.mem_or_eq_of_mem_set hx with hx | hx
  · have := h.2 x hx; exact ⟨this.1, by omega⟩
  · have := h.2 _ (rd27_mem (l := acc) (i := (acc.length : Int) - 1) (by omega) (by omega))
    rw [hx]
    exact ⟨this.1, by simp; omega⟩
theorem addPt_ne {acc : List S27} (p : S46) (h : acc ≠ []) : addPt acc p ≠ [] := by
  intro e
  have := congrArg List.length e
  unfold addPt at this
  rw [List.length_set] at this
  exact h (List.length_eq_zero_iff.1 (by simpa using this))
theorem go_ev (e : Bool) : ∀ (ls : List (List UInt8)) (s : List UInt8) (n : Nat) (o : Bool) (acc : List S27), lin [] s = (ls, e) → s.length ≤ 65536 → n + ls.length ≤ 140000 → (o = true → acc ≠ []) → InvA acc n →
    ∃ r, Ev (fun k => cask_Parse.go k (ba s) (n : Int) o acc) r ∧ EndsP (runC e ls n o acc) r
  | [], s, n, o, acc, h, hs, hn, ho, hi => by
    obtain ⟨rfl, rfl⟩ := lin_nil h
    cases o with
    | true => exact ⟨_, Ev.step (fun k => cask_Parse.go.eq_2 ..) (evp (ba_toList []) (evp rfl (Ev.now _))), rfl⟩
    | false =>
      have sm := hi.sm (by simp at hn; omega)
      obtain ⟨f, f1, _⟩ := list_both acc sm
      refine ⟨if f = 0 then (acc, 0, 0) else ([], 0, f), Ev.step (fun k => cask_Parse.go.eq_2 ..) (evp (ba_toList []) (evn (by decide) (evb f1 ?_))), sm, f, f1, rfl⟩
      by_cases z : f = 0
      · exact evp z (evr (if_pos z).symm)
      · exact evn z (evr (if_neg z).symm)
  | l :: r, s, n, o, acc, h, hs, hn, ho, hi => by
    obtain ⟨h1, h2, hne, hll⟩ := lin_next h
    have hn' : n + (r.length + 1) ≤ 140000 := by simpa using hn
    have hcut := cut_ev (ba s) (by rw [ba_size]; omega)
    rw [ba_list, h1] at hcut
    rw [runC_cons]
    have pre : ∀ x, Ev (fun k => if (cut1 10 s).2.2 = true then (if o = true ∧ (ba l).toList = ([101, 110, 100] : List UInt8) then cask_Parse.go k (ba (cut1 10 s).2.1) (wrap64 ((n : Int) + 1)) false acc
      else (strings_Split.f (ba l) ⟨#[32]⟩).bind fun ws => if o = true then (if 0 < acc.length ∧ acc.length < 4294967296 ∧ (rd_T27 acc ((acc.length : Int) - 1)).f2.length < 4294967296 then (cask_inside.f k ws).bind fun p => match p with
          | none => some ([], (n : Int), 3)
          | some q => cask_Parse.go k (ba (cut1 10 s).2.1) (wrap64 ((n : Int) + 1)) true (addPt acc q) else none)
        else (if acc.length < 4294967296 then (cask_outside.f k ws).bind fun p => match p with
          | none => some ([], (n : Int), 3)
          | some q => cask_Parse.go k (ba (cut1 10 s).2.1) (wrap64 ((n : Int) + 1)) true (acc ++ [q]) else none))
      else some ([], (n : Int), 3)) x → Ev (fun k => cask_Parse.go k (ba s) (n : Int) o acc) x := fun x hx =>
        Ev.step (fun k => cask_Parse.go.eq_2 ..) (evn (by rw [ba_toList]; exact hne) (evb (evc (fun _ => rfl) hcut) hx))
    rcases h2 with ⟨c, hrest⟩ | ⟨c, hr0, hr1, he⟩
    case inr =>
      rw [if_pos ⟨hr1, he⟩]
      exact ⟨_, pre _ (evn (by rw [c]; decide) (Ev.now _)), rfl⟩
    have hne2 : ¬ (r = [] ∧ e = false) := by
      rintro ⟨rfl, rfl⟩
      have := (lin_nil hrest).2
      cases this
    rw [if_neg hne2]
    have hlen := cut1_len 10 s c
    have w : wrap64 ((n : Int) + 1) = ((n + 1 : Nat) : Int) := by rw [w64 (by omega) (by omega)]; omega
    rw [w] at pre
    by_cases ce : o = true ∧ l = cEnd
    · rw [if_pos ce]
      obtain ⟨x, x1, x2⟩ := go_ev e r _ (n + 1) false acc hrest (by omega) (by omega) (fun z => by cases z) hi.up
      exact ⟨x, pre _ (evp c (evp (by rw [ba_toList]; exact ce) x1)), x2⟩
    rw [if_neg ce]
    have hsp := split_ev (ba l) (by rw [ba_size]; omega)
    rw [ba_list] at hsp
    cases o with
    | true =>
      rw [if_pos rfl]
      have hacc := ho rfl
      have hl0 : 0 < acc.length := List.length_pos_iff.2 hacc
      have hg : 0 < acc.length ∧ acc.length < 4294967296 ∧ (rd_T27 acc ((acc.length : Int) - 1)).f2.length < 4294967296 := ⟨hl0, by have := hi.1; omega, by have := (hi.2 _ (rd27_mem (l := acc) (i := (acc.length : Int) - 1) (by omega) (by omega))).2; omega⟩
      have hin := inside_ev (parts 32 l)
      have pre2 : ∀ x, Ev (fun k => match inL (parts 32 l) with
          | none => some ([], (n : Int), 3)
          | some q => cask_Parse.go k (ba (cut1 10 s).2.1) ((n + 1 : Nat) : Int) true (addPt acc q)) x → Ev (fun k => cask_Parse.go k (ba s) (n : Int) true acc) x := fun x hx =>
        pre x (evp c (evn (by rw [ba_toList]; exact ce) (evb (evc (fun _ => rfl) hsp) (evp rfl (evp hg (evb hin hx))))))
      cases hq : inL (parts 32 l) with
      | none => rw [hq] at pre2; exact ⟨_, pre2 _ (Ev.now _), rfl⟩
      | some q =>
        rw [hq] at pre2
        obtain ⟨x, x1, x2⟩ := go_ev e r _ (n + 1) true (addPt acc q) hrest (by omega) (by omega) (fun _ => addPt_ne q hacc) (hi.pt q hacc)
        exact ⟨x, pre2 _ x1, x2⟩
    | false =>
      rw [if_neg (show ¬ (false = true) by decide)]
      have hg : acc.length < 4294967296 := by have := hi.1; omega
      have hout := outside_ev (parts 32 l) (fun w hw => by have := part_le 32 l w hw; omega)
      have pre2 : ∀ x, Ev (fun k => match outL (parts 32 l) with
          | none => some ([], (n : Int), 3)
          | some q => cask_Parse.go k (ba (cut1 10 s).2.1) ((n + 1 : Nat) : Int) true (acc ++ [q])) x → Ev (fun k => cask_Parse.go k (ba s) (n : Int) false acc) x := fun x hx =>
        pre x (evp c (evn (by rw [ba_toList]; exact ce) (evb (evc (fun _ => rfl) hsp) (evn (by decide) (evp hg (evb hout hx))))))
      cases hq : outL (parts 32 l) with
      | none => rw [hq] at pre2; exact ⟨_, pre2 _ (Ev.now _), rfl⟩
      | some q =>
        rw [hq] at pre2
        obtain ⟨x, x1, x2⟩ := go_ev e r _ (n + 1) true (acc ++ [q]) hrest (by omega) (by omega) (fun _ => by simp) (hi.out hq (by omega))
        exact ⟨x, pre2 _ x1, x2⟩
theorem parts_one {p w : List UInt8} (h : parts 32 p = [w]) : p = w := by
  have := glue_parts 32 p
  rw [h] at this
  exact this.symm
theorem ref_parse (s : ByteArray) (hs : (s.size : Int) ≤ 65536) : ∀ i, 0 ≤ i → i ≤ (s.size : Int) → ∀ (fr : Int) (acc : List S27) (o : Bool) (n : Nat), 0 ≤ fr → fr ≤ i → (n : Int) ≤ i → (o = true → acc ≠ []) → InvA acc n →
    ∃ r, Ev (fun k => spileref09_Parse.l0 k s acc o (n : Int) fr i) r ∧ EndsP (runC (lin ((s.data.toList.take i.toNat).drop fr.toNat) (s.data.toList.drop i.toNat)).2 (lin ((s.data.toList.take i.toNat).drop fr.toNat) (s.data.toList.drop i.toNat)).1 (n + 1) o acc) r := by
  refine count_up 0 (s.size : Int) _ ?_ ?_
  · intro fr acc o n h0 h1 h2 ho hi
    rw [drop_end, take_end]
    have w : wrap64 ((n : Int) + 1) = ((n + 1 : Nat) : Int) := by rw [w64 (by omega) (by omega)]; omega
    have bad : Ev (fun k => spileref09_Parse.j2 k acc (n : Int) true) ([], ((n + 1 : Nat) : Int), 3) := Ev.step (fun k => spileref09_Parse.j2.eq_2 ..) (evp rfl (evr (by rw [w])))
    by_cases c : fr < (s.size : Int)
    · have hne : ¬ s.data.toList.drop fr.toNat = [] := fun e => by
        have := congrArg List.length e
        rw [List.length_drop, size_data] at this
        simp at this; omega
      unfold lin
      rw [if_neg hne]
      refine ⟨_, Ev.step (fun k => spileref09_Parse.l0.eq_2 ..) (evn (by omega) (evp c bad)), ?_⟩
      show EndsP (runC false [_] (n + 1) o acc) _
      rw [runC_cons, if_pos ⟨rfl, rfl⟩]
      rfl
    · have he : s.data.toList.drop fr.toNat = [] := List.drop_eq_nil_of_le (by rw [size_data]; omega)
      rw [he]
      cases o with
      | true => exact ⟨_, Ev.step (fun k => spileref09_Parse.l0.eq_2 ..) (evn (by omega) (evn c bad)), rfl⟩
      | false =>
        have sm := hi.sm (by omega)
        obtain ⟨f, f1, f2, _⟩ := list_both acc sm
        refine ⟨if f = 0 then (acc, 0, 0) else ([], 0, f), Ev.step (fun k => spileref09_Parse.l0.eq_2 ..) (evn (by omega) (evn c (Ev.step (fun k => spileref09_Parse.j2.eq_2 ..) (evn (by decide) (evb f2 ?_))))), sm, f, f1, rfl⟩
        by_cases z : f = 0
        · exact evp z (evr (if_pos z).symm)
        · exact evn z (evr (if_neg z).symm)
  · intro i h0 h1 ih fr acc o n g0 g1 g2 ho hi
    obtain ⟨b, e1, e2, e3⟩ := byte_at s h0 h1
    have HW := Aside0.mk (show wrap64 (i + 1) = i + 1 from w64 (by omega) (by omega))
    have hlen : fr.toNat ≤ (s.data.toList.take i.toNat).length := by rw [List.length_take, size_data]; omega
    by_cases c : b = 10
    case neg =>
      obtain ⟨x, x1, x2⟩ := ih fr acc o n g0 (by omega) (by omega) ho hi
      rw [e2, List.drop_append_of_le_length hlen] at x2
      rw [e1, lin_cons, if_neg c]
      refine ⟨x, Ev.step (fun k => spileref09_Parse.l0.eq_2 ..) (evp h1 (evp h0 ?_)), x2⟩
      rw [e3, HW.out]
      exact evn (fun h => c ((toNat_eq b 10 (by decide)).1 h)) x1
    have z : (s.data.toList.take (i + 1).toNat).drop (i + 1).toNat = [] := List.drop_eq_nil_of_le (by rw [List.length_take]; omega)
    have ih2 : ∀ (acc : List S27) (o : Bool) (n : Nat), (n : Int) ≤ i + 1 → (o = true → acc ≠ []) → InvA acc n →
        ∃ r, Ev (fun k => spileref09_Parse.l0 k s acc o (n : Int) (i + 1) (i + 1)) r ∧ EndsP (runC (lin [] (s.data.toList.drop (i + 1).toNat)).2 (lin [] (s.data.toList.drop (i + 1).toNat)).1 (n + 1) o acc) r := by
      intro acc o n c d e
      have q := ih (i + 1) acc o n (by omega) (by omega) c d e
      rw [z] at q
      exact q
    clear ih
    rw [e1, lin_cons, if_pos c]
    generalize hP : (s.data.toList.take i.toNat).drop fr.toNat = P
    have hPl : P.length ≤ 65536 := by
      rw [← hP, List.length_drop, List.length_take, size_data]; omega
    generalize hL : lin [] (s.data.toList.drop (i + 1).toNat) = L at ih2 ⊢
    have hne2 : ¬ (L.1 = [] ∧ L.2 = false) := by
      rintro ⟨q1, q2⟩
      have := (lin_nil (s := s.data.toList.drop (i + 1).toNat) (e := L.2) (by rw [hL, ← q1])).2
      rw [q2] at this
      cases this
    show ∃ r, _ ∧ EndsP (runC L.2 (P :: L.1) (n + 1) o acc) r
    rw [runC_cons, if_neg hne2]
    have WN := Aside0.mk (show wrap64 ((n : Int) + 1) = ((n + 1 : Nat) : Int) from by rw [w64 (by omega) (by omega)]; omega)
    have hi1 : InvA acc (n + 1) := hi.up
    have hwd := words9_ev (ba P) (by rw [ba_size]; omega)
    rw [ba_list] at hwd
    have hex : s.extract fr.toNat i.toNat = ba P := by rw [ba_ex, hP]
    have pre : ∀ x, Ev (fun k => (spileref09_Words.f k (ba P)).bind fun bt315 => (if bt315.2 = true then (if o = true then (if (bt315.1.length : Int) = 1 then (if 0 < (bt315.1.length : Int) then (spileref09_Parse.j1 k s acc o ((n + 1 : Nat) : Int) (i + 1) i bt315.1 ((rdOf ByteArray.empty bt315.1 0).toList == ([101, 110, 100] : List UInt8))) else (none)) else (spileref09_Parse.j1 k s acc o ((n + 1 : Nat) : Int) (i + 1) i bt315.1 false)) else ((spileref09_head.f k bt315.1).bind fun bt319 => (if bt319.2.2.2.2 = true then (if acc.length < 2513169434916 then (spileref09_Parse.l0 k s (acc ++ [(⟨bt319.1, bt319.2.1, bt319.2.2.1, bt319.2.2.2.1⟩ : S27)]) true ((n + 1 : Nat) : Int) (i + 1) (i + 1)) else (none)) else (some (([] : List (S27)), ((n + 1 : Nat) : Int), 3))))) else (some (([] : List (S27)), ((n + 1 : Nat) : Int), 3)))) x →
        Ev (fun k => spileref09_Parse.l0 k s acc o (n : Int) fr i) x := by
      intro x hx
      refine Ev.step (fun k => spileref09_Parse.l0.eq_2 ..) (evp h1 (evp h0 ?_))
      rw [e3, HW.out, WN.out]
      refine evp ((toNat_eq b 10 (by decide)).2 c) (evp g0 (evp g1 (evp (by omega) ?_)))
      rw [hex]
      exact hx
    have badx : EndsP (.error (n + 1)) ([], ((n + 1 : Nat) : Int), 3) := rfl
    by_cases hm : ([] : List UInt8) ∈ parts 32 P
    · rw [if_pos hm] at hwd
      have hce : ¬ (o = true ∧ P = cEnd) := by
        rintro ⟨_, rfl⟩
        revert hm; decide
      rw [if_neg hce, inL_nil hm, outL_nil hm]
      refine ⟨([], ((n + 1 : Nat) : Int), 3), pre _ (evb hwd (evn (by decide) (Ev.now _))), ?_⟩
      split <;> exact badx
    rw [if_neg hm] at hwd
    have hbnd : ∀ w, w ∈ parts 32 P → w.length ≤ 100000 := fun w hw2 => by have := part_le 32 P w hw2; omega
    cases o with
    | false =>
      rw [if_neg (fun q => by cases q.1), if_neg (show ¬ (false = true) by decide)]
      obtain ⟨r, r1, r2⟩ := head_ev (parts 32 P) hm hbnd
      cases hq : outL (parts 32 P) with
      | none =>
        rw [hq] at r2
        exact ⟨_, pre _ (evb hwd (evp rfl (evn (by decide) (evb r1 (evn (by rw [show r.2.2.2.2 = false from r2]; decide) (Ev.now _)))))), badx⟩
      | some q =>
        rw [hq] at r2
        have r2 : r = (q.f0, q.f1, q.f2, q.f3, true) := r2
        subst r2
        obtain ⟨x, x1, x2⟩ := ih2 (acc ++ [q]) true (n + 1) (by omega) (fun _ => by simp) (hi.out hq (by omega))
        exact ⟨x, pre _ (evb hwd (evp rfl (evn (by decide) (evb r1 (evp rfl (evp (by have := hi.1; omega) x1)))))), x2⟩
    | true =>
      have hacc := ho rfl
      have hl0 : 0 < acc.length := List.length_pos_iff.2 hacc
      have hal := hi.1
      by_cases ce : P = cEnd
      · rw [if_pos ⟨rfl, ce⟩]
        subst ce
        obtain ⟨x, x1, x2⟩ := ih2 acc false (n + 1) (by omega) (fun q => by cases q) hi1
        refine ⟨x, pre _ (evb hwd (evp rfl (evp rfl (evp rfl (evp (by decide) (Ev.step (fun k => spileref09_Parse.j1.eq_2 ..) (evp (by show ((ba cEnd).toList == cEnd) = true; rw [ba_toList]; rfl) ?_))))))), x2⟩
        rw [HW.out]
        exact x1
      · rw [if_neg (fun q => ce q.2), if_pos rfl]
        obtain ⟨r, r1, r2⟩ := point_ev (parts 32 P) hbnd
        have WL := Aside0.mk (show wrap64 ((acc.length : Int) - 1) = (acc.length : Int) - 1 from w64 (by omega) (by omega))
        have tail : ∀ x, Ev (fun k => (spileref09_point.f k ((parts 32 P).map ba)).bind fun bt331 => (if bt331.2.2 = true then (spileref09_Parse.l0 k s (addPt acc ⟨bt331.1, bt331.2.1⟩) true ((n + 1 : Nat) : Int) (i + 1) (i + 1)) else (some (([] : List (S27)), ((n + 1 : Nat) : Int), 3)))) x →
            Ev (fun k => spileref09_Parse.j1 k s acc true ((n + 1 : Nat) : Int) (i + 1) i ((parts 32 P).map ba) false) x := by
          intro x hx
          refine Ev.step (fun k => spileref09_Parse.j1.eq_2 ..) (evn (by decide) ?_)
          refine Ev.congr (fun k => ?_) hx
          refine congrArg (Option.bind (spileref09_point.f k ((parts 32 P).map ba))) (funext fun bt => ?_)
          rw [WL.out, HW.out]
          have hbig : (rd_T27 acc ((acc.length : Int) - 1)).f2.length < 8796093022208 := by have := (hi.2 _ (rd27_mem (l := acc) (i := (acc.length : Int) - 1) (by omega) (by omega))).2; omega
          rw [if_pos (show 0 ≤ (acc.length : Int) - 1 by omega), if_pos (show (acc.length : Int) - 1 < (acc.length : Int) by omega), if_pos hbig]
          rfl
        have pre2 : ∀ x, Ev (fun k => spileref09_Parse.j1 k s acc true ((n + 1 : Nat) : Int) (i + 1) i ((parts 32 P).map ba) false) x → Ev (fun k => spileref09_Parse.l0 k s acc true (n : Int) fr i) x := by
          intro x hx
          by_cases c1 : (((parts 32 P).map ba).length : Int) = 1
          · refine pre x (evb hwd (evp rfl (evp rfl (evp c1 (evp (by show 0 < (((parts 32 P).map ba).length : Int); omega) ?_)))))
            have c1' : (parts 32 P).length = 1 := by rw [List.length_map] at c1; omega
            obtain ⟨u, hu⟩ := List.length_eq_one_iff.1 c1'
            have : P = u := parts_one hu
            subst this
            rw [hu]
            have e0 : rdOf ByteArray.empty ([P].map ba) 0 = ba P := rfl
            simp only []
            rw [e0, ba_toList, show (P == ([101, 110, 100] : List UInt8)) = false from beq_eq_false_iff_ne.2 ce]
            rw [hu] at hx
            exact hx
          · exact pre x (evb hwd (evp rfl (evp rfl (evn c1 hx))))
        cases hq : inL (parts 32 P) with
        | none =>
          rw [hq] at r2
          exact ⟨_, pre2 _ (tail _ (evb r1 (evn (by rw [show r.2.2 = false from r2]; decide) (Ev.now _)))), badx⟩
        | some q =>
          rw [hq] at r2
          have r2 : r = (q.f0, q.f1, true) := r2
          subst r2
          obtain ⟨x, x1, x2⟩ := ih2 (addPt acc q) true (n + 1) (by omega) (fun _ => addPt_ne q hacc) (hi.pt q hacc)
          exact ⟨x, pre2 _ (tail _ (evb r1 (evp rfl x1))), x2⟩
/-- What a text comes to. -/
def readT (s : List UInt8) : Except Nat (List S27) := runC (lin [] s).2 (lin [] s).1 1 false []
theorem parse_both (s : ByteArray) : ∃ r, Ev (fun k => cask_Parse.f k s) r ∧ Ev (fun k => spileref09_Parse.f k s) r ∧ ((s.size : Int) ≤ 65536 → EndsP (readT s.data.toList) r) := by
  by_cases c : (s.size : Int) > 65536
  · exact ⟨([], 0, 8), evp c (Ev.now _), evp c (Ev.now _), fun h => by omega⟩
  have hsz := size_data s
  have inv : InvA ([] : List S27) 0 := ⟨Nat.le_refl _, fun x hx => by cases hx⟩
  have inv1 : InvA ([] : List S27) 1 := ⟨by simp, fun x hx => by cases hx⟩
  have hll := lin_len s.data.toList []
  obtain ⟨r, r1, r2⟩ := go_ev (lin [] s.data.toList).2 (lin [] s.data.toList).1 s.data.toList 1 false [] rfl (by omega) (by omega) (fun q => by cases q) inv1
  rw [ba_data] at r1
  obtain ⟨q, q1, q2⟩ := ref_parse s (by omega) 0 (by omega) (by omega) 0 [] false 0 (by omega) (by omega) (by omega) (fun q => by cases q) inv
  rw [show (0 : Int).toNat = 0 from rfl, List.take_zero, List.drop_zero, List.drop_zero] at q2
  obtain rfl := EndsP.uniq r2 q2
  exact ⟨r, evn c r1, evn c q1, fun _ => r2⟩
end Go.Proofs.YtnhmlneebnkjcaaDoor.PL
namespace Go.Proofs.YtnhmlneebnkjcaaDoor.PL
open Go Go.RowKit Go.Proofs.YtnhmlneebnkjcaaDoorW.PrintWords Go.Proofs.YtnhmlneebnkjcaaDoorW.PrintLast Go.Proofs.YtnhmlneebnkjcaaDoorW.PrintMore Go.Proofs.YtnhmlneebnkjcaaDoor.Pr Go.Proofs.YtnhmlneebnkjcaaDoor.Opn Go.Proofs.YtnhmlneebnkjcaaDoor.TX Go.Proofs.YtnhmlneebnkjcaaDoor.X
def posT (p : Int) : List UInt8 := if p = 2 then cStand else cLying
def headT (x : S27) : List UInt8 := cCask ++ 32 :: (nm x ++ 32 :: (posT x.f1 ++ 32 :: (cDecl ++ 32 :: Lib.itoa x.f3)))
def ptT (p : S46) : List UInt8 := cAt ++ 32 :: (Lib.itoa p.f0 ++ 32 :: (cRad ++ 32 :: Lib.itoa p.f1))
def linesOf (x : S27) : List (List UInt8) := headT x :: (x.f2.map ptT ++ [cEnd])
def tl (ls : List (List UInt8)) : List UInt8 := printL (fun x => x) ls
def castT (l : List S27) : List UInt8 := tl (l.flatMap linesOf)
theorem tl_cons (x : List UInt8) (r : List (List UInt8)) : tl (x :: r) = x ++ 10 :: tl r := rfl
theorem tl_app : ∀ a b, tl (a ++ b) = tl a ++ tl b
  | [], b => rfl
  | x :: r, b => by rw [List.cons_append, tl_cons, tl_cons, tl_app r b]; simp
theorem pos_len (p : Int) : (posT p).length ≤ 8 := by unfold posT; split <;> decide
def Rng (x : S27) : Prop := x.f0.size ≤ 64 ∧ 0 ≤ x.f3 ∧ x.f3 ≤ 1073741824 ∧ (x.f2.length : Int) ≤ 32 ∧ AllP x.f2
theorem OKC.rng {x : S27} (h : OKC x) : Rng x := ⟨h.1.2.1, h.2.2.1, h.2.2.2.1, h.2.2.2.2.2.1, h.2.2.2.2.2.2.1⟩
theorem head_len {x : S27} (h : Rng x) : (headT x).length ≤ 120 := by
  have a := itoa_le (n := x.f3) (m := 10) (by have := h.2.1; omega) (by have := h.2.2.1; omega) (by omega)
  have b := pos_len x.f1
  have c := size_data x.f0
  have d := h.1
  unfold headT nm
  simp only [List.length_append, List.length_cons, cCask, cDecl, List.length_nil]
  omega
theorem pt_len {p : S46} (h : PtP p) : (ptT p).length ≤ 40 := by
  have a := itoa_le (n := p.f0) (m := 10) (by have := h.1.1; omega) (by have := h.1.2; omega) (by omega)
  have b := itoa_le (n := p.f1) (m := 10) (by have := h.2.1; omega) (by have := h.2.2; omega) (by omega)
  unfold ptT
  simp only [List.length_append, List.length_cons, cAt, cRad, List.length_nil]
  omega
theorem lits : (⟨#[99, 97, 115, 107, 32]⟩ : ByteArray) = ba [99, 97, 115, 107, 32] ∧ (⟨#[32]⟩ : ByteArray) = ba [32] ∧ (⟨#[32, 100, 101, 99, 108, 97, 114, 101, 100, 32]⟩ : ByteArray) = ba [32, 100, 101, 99, 108, 97, 114, 101, 100, 32] ∧ (⟨#[10]⟩ : ByteArray) = ba [10] ∧
    (⟨#[97, 116, 32]⟩ : ByteArray) = ba [97, 116, 32] ∧ (⟨#[32, 114, 97, 100, 105, 117, 115, 32]⟩ : ByteArray) = ba [32, 114, 97, 100, 105, 117, 115, 32] ∧ (⟨#[101, 110, 100, 10]⟩ : ByteArray) = ba [101, 110, 100, 10] := ⟨rfl, rfl, rfl, rfl, rfl, rfl, rfl⟩
theorem word_ba (p : Int) : cask_Print.word p = ba (posT p) := by unfold cask_Print.word posT; split <;> rfl
theorem head_eq {x : S27} (h : Rng x) : cask_Print.head x = some (ba (headT x ++ [10])) := by
  have a := itoa_le (n := x.f3) (m := 10) (by have := h.2.1; omega) (by have := h.2.2.1; omega) (by omega)
  have e0 : x.f0 = ba (nm x) := (ba_data _).symm
  unfold cask_Print.head
  rw [itoa_f (by have := h.2.1; omega) (by have := h.2.2.1; omega), Option.bind_some, if_pos ⟨by rw [ba_size]; omega, by have := h.1; omega⟩, lits.1, lits.2.1, lits.2.2.1, lits.2.2.2.1, word_ba]
  refine congrArg some ?_
  rw [show ba [99, 97, 115, 107, 32] ++ x.f0 = ba ([99, 97, 115, 107, 32] ++ nm x) from by rw [← ba_app, ← e0], ba_app, ba_app, ba_app, ba_app, ba_app]
  simp [headT, cCask, cDecl]
theorem part_eq {p : S46} (h : PtP p) : cask_Print.part p = some (ba (ptT p ++ [10])) := by
  have a := itoa_le (n := p.f0) (m := 10) (by have := h.1.1; omega) (by have := h.1.2; omega) (by omega)
  have b := itoa_le (n := p.f1) (m := 10) (by have := h.2.1; omega) (by have := h.2.2; omega) (by omega)
  unfold cask_Print.part
  rw [itoa_f (by have := h.1.1; omega) (by have := h.1.2; omega), itoa_f (by have := h.2.1; omega) (by have := h.2.2; omega), Option.bind_some, Option.bind_some, if_pos ⟨by rw [ba_size]; omega, by rw [ba_size]; omega⟩, lits.2.2.2.1, lits.2.2.2.2.1, lits.2.2.2.2.2.1]
  refine congrArg some ?_
  rw [ba_app, ba_app, ba_app, ba_app]
  simp [ptT, cAt, cRad]
theorem app_eq (acc s : List UInt8) (h : acc.length + s.length ≤ 140737488355328) : cask_Print.app acc (ba s) = some (acc ++ s) := by
  unfold cask_Print.app
  rw [ba_size, if_pos h]
  rfl
theorem print_pts (l : List S27) (i : Int) (h : AllP (rd_T27 l i).f2) (hn : ((rd_T27 l i).f2.length : Int) ≤ 32) : ∀ j, 0 ≤ j → j ≤ ((rd_T27 l i).f2.length : Int) → ∀ acc : List UInt8, (acc.length : Int) + 41 * (((rd_T27 l i).f2.length : Int) - j) ≤ 1000000 →
    ∀ r, Ev (fun k => cask_Print.l0 k l (acc ++ tl (((rd_T27 l i).f2.drop j.toNat).map ptT ++ [cEnd])) (wrap64 (i + 1))) r → Ev (fun k => cask_Print.l1 k l acc i j) r := by
  refine count_up 0 _ _ ?_ ?_
  · intro acc ha r hr
    rw [List.drop_eq_nil_of_le (by omega)] at hr
    refine Ev.step (fun k => cask_Print.l1.eq_2 ..) (evn (by omega) ?_)
    rw [lits.2.2.2.2.2.2, app_eq _ _ (by simp; omega)]
    simp only [Option.bind_some]
    exact hr
  · intro j h0 h1 ih acc ha r hr
    have hp := h j h0 h1
    have hl := pt_len hp
    refine Ev.step (fun k => cask_Print.l1.eq_2 ..) (evp h1 (evp h0 ?_))
    rw [part_eq hp]
    simp only [Option.bind_some]
    rw [app_eq _ _ (by simp; omega)]
    simp only [Option.bind_some]
    have q := ih (acc ++ (ptT (rd_T46 (rd_T27 l i).f2 j) ++ [10])) (by simp; omega) r
    rw [← w64_succ h0 h1 (by omega)] at q
    refine q ?_
    rw [w64_succ h0 h1 (by omega)]
    rw [drop46 h0 h1, List.map_cons, List.cons_append, tl_cons] at hr
    simp only [List.append_assoc, List.cons_append, List.nil_append] at hr ⊢
    exact hr
theorem print_loop (l : List S27) (hn : (l.length : Int) ≤ 32) (h : ∀ x, x ∈ l → Rng x) : ∀ i, 0 ≤ i → i ≤ (l.length : Int) → ∀ acc : List UInt8, (acc.length : Int) ≤ 1500 * i →
    Ev (fun k => cask_Print.l0 k l acc i) (ba (acc ++ castT (l.drop i.toNat)), 0) := by
  refine count_up 0 (l.length : Int) _ ?_ ?_
  · intro acc ha
    rw [List.drop_eq_nil_of_le (by omega)]
    exact Ev.step (fun k => cask_Print.l0.eq_2 ..) (evn (by omega) (evr (by simp [castT, tl, printL, ba])))
  · intro i h0 h1 ih acc ha
    have hx := h _ (rd27_mem h0 h1)
    have hl := head_len hx
    have hpt := hx.2.2.2.1
    refine Ev.step (fun k => cask_Print.l0.eq_2 ..) (evp h1 (evp h0 ?_))
    rw [head_eq hx]
    simp only [Option.bind_some]
    rw [app_eq _ _ (by simp; omega)]
    simp only [Option.bind_some]
    have hlen : (tl ((rd_T27 l i).f2.map ptT ++ [cEnd])).length ≤ 1320 := by
      rw [tl_app]
      have a : (tl ((rd_T27 l i).f2.map ptT)).length ≤ 41 * ((rd_T27 l i).f2.map ptT).length := printL_len (m := 40) _ (fun x hx2 => by
        obtain ⟨p, hp, rfl⟩ := List.mem_map.1 hx2
        obtain ⟨j, hj⟩ := List.mem_iff_getElem?.1 hp
        have hjl := (List.getElem?_eq_some_iff.1 hj).1
        have := hx.2.2.2.2 (j : Int) (by omega) (by omega)
        unfold rd_T46 at this
        rw [Int.toNat_natCast, List.getD_eq_getElem?_getD, hj] at this
        exact pt_len this)
      rw [List.length_map] at a
      have b : (tl [cEnd]).length = 4 := rfl
      rw [List.length_append, b]
      omega
    refine print_pts l i hx.2.2.2.2 hpt 0 (by omega) (by omega) _ (by simp; omega) _ ?_
    have q := ih (acc ++ (headT (rd_T27 l i) ++ [10]) ++ tl ((rd_T27 l i).f2.map ptT ++ [cEnd])) (by simp only [List.length_append, List.length_cons, List.length_nil] at hlen ⊢; omega)
    rw [← w64_succ h0 h1 (by omega)] at q
    rw [drop27 h0 h1, show (0 : Int).toNat = 0 from rfl, List.drop_zero]
    rw [w64_succ h0 h1 (by omega)] at q ⊢
    have e : castT (rd_T27 l i :: l.drop (i + 1).toNat) = headT (rd_T27 l i) ++ 10 :: (tl ((rd_T27 l i).f2.map ptT ++ [cEnd]) ++ castT (l.drop (i + 1).toNat)) := by
      unfold castT
      rw [List.flatMap_cons, tl_app]
      show tl (headT _ :: _) ++ _ = _
      rw [tl_cons]
      simp
    rw [e]
    simp only [List.append_assoc, List.cons_append, List.nil_append] at q ⊢
    exact q
theorem ref_word (p : Int) (h : p = 1 ∨ p = 2) : spileref09_word.f p = some (ba (posT p)) := by
  unfold spileref09_word.f posT
  rcases h with rfl | rfl <;> rfl
theorem ref_pts (l : List S27) (i : Int) (f0 : ByteArray) (f1 f3 : Int) (pts : List S46) (h : AllP pts) (hn : (pts.length : Int) ≤ 32) : ∀ j, 0 ≤ j → j ≤ (pts.length : Int) → ∀ acc : List UInt8, (acc.length : Int) + 41 * ((pts.length : Int) - j) ≤ 1000000 →
    ∀ r, Ev (fun k => spileref09_Print.l0 k l (ba (acc ++ tl ((pts.drop j.toNat).map ptT ++ [cEnd]))) (wrap64 (i + 1))) r → Ev (fun k => spileref09_Print.l1 k l (ba acc) i j f0 f1 pts f3) r := by
  refine count_up 0 _ _ ?_ ?_
  · intro acc ha r hr
    rw [List.drop_eq_nil_of_le (by omega)] at hr
    refine Ev.step (fun k => spileref09_Print.l1.eq_2 ..) (evn (by omega) ?_)
    rw [lits.2.2.2.2.2.2, ba_app]
    exact evp (by rw [ba_size]; omega) hr
  · intro j h0 h1 ih acc ha r hr
    have hp := h j h0 h1
    have hl := pt_len hp
    have a := itoa_le (n := (rd_T46 pts j).f0) (m := 10) (by have := hp.1.1; omega) (by have := hp.1.2; omega) (by omega)
    have b := itoa_le (n := (rd_T46 pts j).f1) (m := 10) (by have := hp.2.1; omega) (by have := hp.2.2; omega) (by omega)
    refine Ev.step (fun k => spileref09_Print.l1.eq_2 ..) (evp h1 (evp h0 (evb (evc (fun _ => rfl) (itoa_f (by have := hp.1.1; omega) (by have := hp.1.2; omega))) ?_)))
    rw [lits.2.2.2.1, lits.2.2.2.2.1, lits.2.2.2.2.2.1, ba_app, ba_app]
    refine evp (by rw [ba_size]; omega) (evp (by rw [ba_size]; simp; omega) (evb (evc (fun _ => rfl) (itoa_f (by have := hp.2.1; omega) (by have := hp.2.2; omega))) ?_))
    rw [ba_app, ba_app, ba_app]
    refine evp (by rw [ba_size, ba_size]; simp; omega) (evp (by rw [ba_size]; simp; omega) (evp (by rw [ba_size, ba_size]; simp; omega) ?_))
    have q := ih (acc ++ (ptT (rd_T46 pts j) ++ [10])) (by simp; omega) r
    rw [drop46 h0 h1, List.map_cons, List.cons_append, tl_cons] at hr
    have q2 := q (by simpa only [List.append_assoc, List.cons_append, List.nil_append] using hr)
    rw [← w64_succ h0 h1 (by omega)] at q2
    have e : [97, 116, 32] ++ Lib.itoa (rd_T46 pts j).f0 ++ [32, 114, 97, 100, 105, 117, 115, 32] ++ Lib.itoa (rd_T46 pts j).f1 ++ [10] = ptT (rd_T46 pts j) ++ [10] := by simp [ptT, cAt, cRad]
    rw [e]
    exact q2
theorem ref_print_loop (l : List S27) (hn : (l.length : Int) ≤ 32) (h : ∀ x, x ∈ l → Rng x ∧ (x.f1 = 1 ∨ x.f1 = 2)) : ∀ i, 0 ≤ i → i ≤ (l.length : Int) → ∀ acc : List UInt8, (acc.length : Int) ≤ 1500 * i →
    Ev (fun k => spileref09_Print.l0 k l (ba acc) i) (ba (acc ++ castT (l.drop i.toNat)), 0) := by
  refine count_up 0 (l.length : Int) _ ?_ ?_
  · intro acc ha
    rw [List.drop_eq_nil_of_le (by omega)]
    exact Ev.step (fun k => spileref09_Print.l0.eq_2 ..) (evn (by omega) (evr (by simp [castT, tl, printL, ba])))
  · intro i h0 h1 ih acc ha
    obtain ⟨hx, hpos⟩ := h _ (rd27_mem h0 h1)
    have hl := head_len hx
    have hpt := hx.2.2.2.1
    have hlen : (tl ((rd_T27 l i).f2.map ptT ++ [cEnd])).length ≤ 1320 := by
      rw [tl_app]
      have a : (tl ((rd_T27 l i).f2.map ptT)).length ≤ 41 * ((rd_T27 l i).f2.map ptT).length := printL_len (m := 40) _ (fun x hx2 => by
        obtain ⟨p, hp, rfl⟩ := List.mem_map.1 hx2
        obtain ⟨j, hj⟩ := List.mem_iff_getElem?.1 hp
        have hjl := (List.getElem?_eq_some_iff.1 hj).1
        have := hx.2.2.2.2 (j : Int) (by omega) (by omega)
        unfold rd_T46 at this
        rw [Int.toNat_natCast, List.getD_eq_getElem?_getD, hj] at this
        exact pt_len this)
      rw [List.length_map] at a
      have b : (tl [cEnd]).length = 4 := rfl
      rw [List.length_append, b]
      omega
    have hnm : (nm (rd_T27 l i)).length ≤ 64 := by have := hx.1; unfold nm; rw [size_data]; exact this
    have a := itoa_le (n := (rd_T27 l i).f3) (m := 10) (by have := hx.2.1; omega) (by have := hx.2.2.1; omega) (by omega)
    have b := pos_len (rd_T27 l i).f1
    have e0 : (⟨#[99, 97, 115, 107, 32]⟩ : ByteArray) ++ (rd_T27 l i).f0 = ba ([99, 97, 115, 107, 32] ++ nm (rd_T27 l i)) := by
      rw [lits.1, ← ba_app]
      congr 1
    refine Ev.step (fun k => spileref09_Print.l0.eq_2 ..) (evp h1 (evp h0 (evp (by have := hx.1; omega) ?_)))
    rw [e0, lits.2.1, ba_app]
    refine evp (by rw [ba_size]; simp; omega) (evb (evc (fun _ => rfl) (ref_word _ hpos)) ?_)
    rw [lits.2.2.1, ba_app, ba_app]
    refine evp (by rw [ba_size, ba_size]; simp; omega) (evp (by rw [ba_size]; simp; omega) (evb (evc (fun _ => rfl) (itoa_f (by have := hx.2.1; omega) (by have := hx.2.2.1; omega))) ?_))
    rw [lits.2.2.2.1, ba_app, ba_app, ba_app]
    refine evp (by rw [ba_size, ba_size]; simp; omega) (evp (by rw [ba_size]; simp; omega) (evp (by rw [ba_size, ba_size]; simp; omega) ?_))
    refine ref_pts l i _ _ _ _ hx.2.2.2.2 hpt 0 (by omega) (by omega) _ (by simp; omega) _ ?_
    have q := ih (acc ++ (headT (rd_T27 l i) ++ [10]) ++ tl ((rd_T27 l i).f2.map ptT ++ [cEnd])) (by simp only [List.length_append, List.length_cons, List.length_nil] at hlen ⊢; omega)
    rw [drop27 h0 h1, show (0 : Int).toNat = 0 from rfl, List.drop_zero, w64_succ h0 h1 (by omega)]
    have e : castT (rd_T27 l i :: l.drop (i + 1).toNat) = headT (rd_T27 l i) ++ 10 :: (tl ((rd_T27 l i).f2.map ptT ++ [cEnd]) ++ castT (l.drop (i + 1).toNat)) := by
      unfold castT
      rw [List.flatMap_cons, tl_app]
      show tl (headT _ :: _) ++ _ = _
      rw [tl_cons]
      simp
    rw [e]
    have e2 : [99, 97, 115, 107, 32] ++ nm (rd_T27 l i) ++ [32] ++ posT (rd_T27 l i).f1 ++ [32, 100, 101, 99, 108, 97, 114, 101, 100, 32] ++ Lib.itoa (rd_T27 l i).f3 ++ [10] = headT (rd_T27 l i) ++ [10] := by simp [headT, cCask, cDecl]
    rw [e2]
    simp only [List.append_assoc, List.cons_append, List.nil_append] at q ⊢
    exact q
theorem print_both (l : List S27) (hl : SmL l) : ∃ r, Ev (fun k => cask_Print.f k l) r ∧ Ev (fun k => spileref09_Print.f k l) r ∧ (OKL l → r = (ba (castT l), 0)) ∧ (¬ OKL l → r.2 ≠ 0 ∧ r.1 = ba [] ∧ Ev (fun k => cask_List.f k l) r.2) := by
  obtain ⟨e, e1, e2, e3, _⟩ := list_both l hl
  by_cases hg : OKL l
  · obtain rfl := e3.2 hg
    have p1 := print_loop l hg.1 (fun x hx => (hg.2.1 x hx).rng) 0 (by omega) (by omega) [] (by simp)
    have p2 := ref_print_loop l hg.1 (fun x hx => ⟨(hg.2.1 x hx).rng, (hg.2.1 x hx).2.1⟩) 0 (by omega) (by omega) [] (by simp)
    rw [show (0 : Int).toNat = 0 from rfl, List.drop_zero, List.nil_append] at p1 p2
    exact ⟨_, evb e1 (evp rfl p1), evb e2 (evp rfl p2), fun _ => rfl, fun h => absurd hg h⟩
  · have he : ¬ e = 0 := fun q => hg (e3.1 q)
    exact ⟨(ba [], e), evb e1 (evn he (Ev.now _)), evb e2 (evn he (Ev.now _)), fun h => absurd h hg, fun _ => ⟨he, rfl, e1⟩⟩
end Go.Proofs.YtnhmlneebnkjcaaDoor.PL
namespace Go.Proofs.YtnhmlneebnkjcaaDoor.PL
open Go Go.RowKit Go.Proofs.YtnhmlneebnkjcaaDoorW.PrintWords Go.Proofs.YtnhmlneebnkjcaaDoorW.PrintLast Go.Proofs.YtnhmlneebnkjcaaDoorW.PrintMore Go.Proofs.YtnhmlneebnkjcaaDoor.Pr Go.Proofs.YtnhmlneebnkjcaaDoor.Opn Go.Proofs.YtnhmlneebnkjcaaDoor.TX Go.Proofs.YtnhmlneebnkjcaaDoor.X
theorem name_mem {s : ByteArray} (h : NameP s) {b : UInt8} (hb : b ∈ s.data.toList) : okB (b.toNat : Int) := by
  obtain ⟨i, hi⟩ := List.mem_iff_getElem?.1 hb
  have hl := (List.getElem?_eq_some_iff.1 hi).1
  rw [size_data] at hl
  obtain ⟨c, e1, _, e3⟩ := byte_at s (i := (i : Int)) (by omega) (by omega)
  have hc : c = b := by
    have h2 := congrArg List.head? e1
    rw [Int.toNat_natCast, List.head?_drop, hi] at h2
    exact (Option.some.inj h2).symm
  rw [← hc, ← e3]
  exact h.2.2 (i : Int) (by omega) (by omega)
theorem name_no {x : S27} (h : NameP x.f0) {b : UInt8} (hb : ¬ okB (b.toNat : Int)) : b ∉ nm x := fun hm => hb (name_mem h hm)
theorem headT_glue (x : S27) : headT x = glue 32 [cCask, nm x, posT x.f1, cDecl, Lib.itoa x.f3] := rfl
theorem ptT_glue (p : S46) : ptT p = glue 32 [cAt, Lib.itoa p.f0, cRad, Lib.itoa p.f1] := rfl
theorem posT_no (p : Int) {b : UInt8} (h1 : b ∉ cLying) (h2 : b ∉ cStand) : b ∉ posT p := by unfold posT; split <;> assumption
theorem posL_T {p : Int} (h : p = 1 ∨ p = 2) : posL (posT p) = some p := by
  rcases h with rfl | rfl <;> rfl
theorem head_read {x : S27} (h : OKC x) : outL (parts 32 (headT x)) = some ⟨x.f0, x.f1, [], x.f3⟩ := by
  have n3 : 0 ≤ x.f3 := h.2.2.1
  have n4 : x.f3 ≤ 1073741824 := h.2.2.2.1
  rw [headT_glue, parts_glue 32 _ (by simp) (fun p hp => by
    simp only [List.mem_cons, List.not_mem_nil, or_false] at hp
    rcases hp with rfl | rfl | rfl | rfl | rfl
    · decide
    · exact name_no h.1 (by unfold okB; decide)
    · exact posT_no _ (by decide) (by decide)
    · decide
    · exact itoa_no n3 (by decide))]
  have hne : nm x ≠ [] := fun e => by
    have e1 := congrArg List.length e
    unfold nm at e1
    rw [size_data, List.length_nil] at e1
    have e2 := h.1.1
    omega
  rw [outL5, if_pos ⟨rfl, hne, rfl⟩, posL_T h.2.1, itoa_numP (m := 10) n3 (by omega) (by omega)]
  show some (⟨ba x.f0.data.toList, x.f1, [], ((x.f3.toNat : Nat) : Int)⟩ : S27) = _
  rw [ba_data, show ((x.f3.toNat : Nat) : Int) = x.f3 from by omega]
theorem pt_read {p : S46} (h : PtP p) : inL (parts 32 (ptT p)) = some p := by
  have a0 := h.1.1
  have a1 := h.1.2
  have b0 := h.2.1
  have b1 := h.2.2
  rw [ptT_glue, parts_glue 32 _ (by simp) (fun p hp => by
    simp only [List.mem_cons, List.not_mem_nil, or_false] at hp
    rcases hp with rfl | rfl | rfl | rfl
    · decide
    · exact itoa_no a0 (by decide)
    · decide
    · exact itoa_no b0 (by decide))]
  rw [inL4, if_pos ⟨rfl, rfl⟩, itoa_numP (m := 10) a0 (by omega) (by omega), itoa_numP (m := 10) b0 (by omega) (by omega)]
  have e1 : ((p.f0.toNat : Nat) : Int) = p.f0 := by omega
  have e2 : ((p.f1.toNat : Nat) : Int) = p.f1 := by omega
  show some (⟨((p.f0.toNat : Nat) : Int), ((p.f1.toNat : Nat) : Int)⟩ : S46) = some p
  rw [e1, e2]
theorem head_no {x : S27} (h : OKC x) : (10 : UInt8) ∉ headT x := by
  have a := name_no h.1 (b := 10) (by unfold okB; decide)
  have b := posT_no x.f1 (b := 10) (by decide) (by decide)
  have c := itoa_no (c := 10) h.2.2.1 (by decide)
  unfold headT
  simp only [List.mem_append, List.mem_cons, not_or]
  exact ⟨by decide, by decide, a, by decide, b, by decide, by decide, by decide, c⟩
theorem pt_no {p : S46} (h : PtP p) : (10 : UInt8) ∉ ptT p := by
  have a := itoa_no (c := 10) h.1.1 (by decide)
  have b := itoa_no (c := 10) h.2.1 (by decide)
  unfold ptT
  simp only [List.mem_append, List.mem_cons, not_or]
  exact ⟨by decide, by decide, a, by decide, by decide, by decide, b⟩
theorem pt_mem {x : S27} (h : OKC x) {p : S46} (hp : p ∈ x.f2) : PtP p := by
  obtain ⟨j, hj⟩ := List.mem_iff_getElem?.1 hp
  have hjl := (List.getElem?_eq_some_iff.1 hj).1
  have := h.rng.2.2.2.2 (j : Int) (by omega) (by omega)
  unfold rd_T46 at this
  rw [Int.toNat_natCast, List.getD_eq_getElem?_getD, hj] at this
  exact this
theorem lines_no {l : List S27} (h : ∀ x, x ∈ l → OKC x) : ∀ z, z ∈ l.flatMap linesOf → (10 : UInt8) ∉ z := by
  intro z hz
  obtain ⟨x, hx, hz⟩ := List.mem_flatMap.1 hz
  unfold linesOf at hz
  rcases List.mem_cons.1 hz with rfl | hz
  · exact head_no (h x hx)
  · rcases List.mem_append.1 hz with hz | hz
    · obtain ⟨p, hp, rfl⟩ := List.mem_map.1 hz
      exact pt_no (pt_mem (h x hx) hp)
    · rw [List.mem_singleton] at hz
      subst hz
      decide
theorem addPt_snoc (i : List S27) (z : S27) (p : S46) : addPt (i ++ [z]) p = i ++ [⟨z.f0, z.f1, z.f2 ++ [p], z.f3⟩] := by
  have e : ((((i ++ [z]).length : Int) - 1)).toNat = i.length := by rw [List.length_append, List.length_singleton]; omega
  have r : rd_T27 (i ++ [z]) (((i ++ [z]).length : Int) - 1) = z := by
    unfold rd_T27
    rw [e, List.getD_eq_getElem?_getD, List.getElem?_append_right (Nat.le_refl _), Nat.sub_self]
    rfl
  unfold addPt
  rw [r, e, List.set_append_right _ _ (Nat.le_refl _), Nat.sub_self]
  rfl
theorem cEnd_in : inL (parts 32 cEnd) = none := by decide
theorem run_pts (rest : List (List UInt8)) : ∀ (pts : List S46) (i : List S27) (z : S27) (n : Nat), (∀ p, p ∈ pts → PtP p) →
    runC true (pts.map ptT ++ cEnd :: rest) n true (i ++ [z]) = runC true rest (n + pts.length + 1) false (i ++ [⟨z.f0, z.f1, z.f2 ++ pts, z.f3⟩])
  | [], i, z, n, _ => by
    show runC true (cEnd :: rest) n true (i ++ [z]) = _
    rw [runC_cons, if_neg (fun h => by cases h.2), if_pos ⟨rfl, rfl⟩]
    simp
  | p :: r, i, z, n, h => by
    have hp := h p (by simp)
    have hr := pt_read hp
    have hne : ptT p ≠ cEnd := fun e => by rw [e, cEnd_in] at hr; cases hr
    show runC true (ptT p :: (r.map ptT ++ cEnd :: rest)) n true (i ++ [z]) = _
    rw [runC_cons, if_neg (fun h => by cases h.2), if_neg (fun h => hne h.2), if_pos rfl, hr]
    show runC true (r.map ptT ++ cEnd :: rest) (n + 1) true (addPt (i ++ [z]) p) = _
    rw [addPt_snoc, run_pts rest r i _ (n + 1) (fun q hq => h q (by simp [hq]))]
    simp only [List.append_assoc, List.singleton_append, List.length_cons]
    rw [show n + 1 + r.length + 1 = n + (r.length + 1) + 1 from by omega]
theorem run_all : ∀ (l acc : List S27) (n : Nat), (∀ x, x ∈ l → OKC x) → ∃ m, runC true (l.flatMap linesOf) n false acc = runC true [] m false (acc ++ l)
  | [], acc, n, _ => ⟨n, by simp⟩
  | x :: r, acc, n, h => by
    have hx := h x (by simp)
    obtain ⟨m, hm⟩ := run_all r (acc ++ [x]) (n + 1 + x.f2.length + 1) (fun y hy => h y (by simp [hy]))
    refine ⟨m, ?_⟩
    have e : (x :: r).flatMap linesOf = headT x :: (x.f2.map ptT ++ cEnd :: r.flatMap linesOf) := by
      rw [List.flatMap_cons]
      unfold linesOf
      simp
    rw [e, runC_cons, if_neg (fun h => by cases h.2), if_neg (fun h => by cases h.1), if_neg (by decide), head_read hx]
    show runC true (x.f2.map ptT ++ cEnd :: r.flatMap linesOf) (n + 1) true (acc ++ [_]) = _
    rw [run_pts _ x.f2 acc _ (n + 1) (fun p hp => pt_mem hx hp)]
    show runC true (r.flatMap linesOf) _ false (acc ++ [(⟨x.f0, x.f1, [] ++ x.f2, x.f3⟩ : S27)]) = _
    rw [List.nil_append]
    rw [hm, List.append_assoc]
    rfl
theorem read_print {l : List S27} (h : ∀ x, x ∈ l → OKC x) : readT (castT l) = .ok l := by
  unfold readT castT tl
  rw [lin_print (lineT := fun x => x) _ (lines_no h)]
  rw [List.map_id']
  obtain ⟨m, hm⟩ := run_all l [] 1 h
  rw [hm]
  rfl
theorem castT_len {l : List S27} (hn : (l.length : Int) ≤ 32) (h : ∀ x, x ∈ l → OKC x) : (castT l).length ≤ 1500 * l.length := by
  have one : ∀ x, x ∈ l → (tl (linesOf x)).length ≤ 1500 := by
    intro x hx
    have hx2 := (h x hx).rng
    have a : (tl (x.f2.map ptT)).length ≤ 41 * (x.f2.map ptT).length := printL_len (m := 40) _ (fun z hz => by
      obtain ⟨p, hp, rfl⟩ := List.mem_map.1 hz
      exact pt_len (pt_mem (h x hx) hp))
    have b := head_len hx2
    have c := hx2.2.2.2.1
    have d : (tl [cEnd]).length = 4 := rfl
    unfold linesOf
    rw [tl_cons, tl_app, List.length_append, List.length_cons, List.length_append, d]
    rw [List.length_map] at a
    omega
  clear hn
  induction l with
  | nil => simp [castT, tl, printL]
  | cons x r ih =>
    have a := one x (by simp)
    have b := ih (fun y hy => h y (by simp [hy])) (fun y hy => one y (by simp [hy]))
    unfold castT at b ⊢
    rw [List.flatMap_cons, tl_app, List.length_append, List.length_cons]
    omega
end Go.Proofs.YtnhmlneebnkjcaaDoor.PL
namespace Go.Proofs.YtnhmlneebnkjcaaDoor.Pure
open Go Go.RowKit Go.Proofs.YtnhmlneebnkjcaaDoorW.PrintWords Go.Proofs.YtnhmlneebnkjcaaDoorW.PrintLast Go.Proofs.YtnhmlneebnkjcaaDoorW.PrintMore Go.Proofs.YtnhmlneebnkjcaaDoor.Pr Go.Proofs.YtnhmlneebnkjcaaDoor.Opn Go.Proofs.YtnhmlneebnkjcaaDoor.X Go.Proofs.YtnhmlneebnkjcaaDoor.PL
theorem CaskBack : caskBackPure := by
  intro l hl
  refine Ev.rounds ?_
  obtain ⟨b, hb, hb2⟩ := few_ev l (len_le hl.1)
  have haw : Ev (fun _ : Nat => spilelaw09_awake.f) true := Ev.now _
  refine evb haw (evp rfl (evb hb ?_))
  cases b with
  | false => exact evn (by decide) (Ev.now _)
  | true =>
    have sm := (hb2 rfl).sm
    have hc := copy_ev l sm
    obtain ⟨r, r1, _, r2, r3⟩ := print_both l sm
    refine evp rfl (evb hc (evb r1 ?_))
    by_cases ok : OKL l
    · obtain rfl := r2 ok
      obtain ⟨q, q1, _, q2⟩ := parse_both (ba (castT l))
      have hlen := castT_len ok.1 ok.2.1
      have h1 := ok.1
      have hq := q2 (by rw [ba_size]; omega)
      rw [ba_list, read_print ok.2.1] at hq
      obtain ⟨_, e, e1, e2⟩ := hq
      obtain ⟨f, f1, _, f3, _⟩ := list_both l sm
      obtain rfl := f3.2 ok
      obtain rfl := ev_unique e1 f1
      rw [if_pos rfl] at e2
      subst e2
      exact evp rfl (evb q1 (evp rfl (evp rfl (evb ((same_ev l l sm).1 rfl) (Ev.now _)))))
    · obtain ⟨z1, z2, z3⟩ := r3 ok
      exact evn z1 (evp (by rw [z2]; exact ba_toList []) (evb hc (evb z3 (evr (by simp)))))
end Go.Proofs.YtnhmlneebnkjcaaDoor.Pure
namespace Go.Proofs.YtnhmlneebnkjcaaDoor.X
open Go
variable {H : Type} {enc : TypeId × Value → H}
theorem wrap_shaped {a : Assume} {C : Checked} {os : Os} {f : FuncId} {fn : Func} {s : ChangeSpec} {conds : List PathCond} {apart fresh handsOn again : Bool} {X : World → Array Value → Prop}
    (hX : ∀ (w w' : World) (args : Array Value), w.heap = w'.heap → X w args → X w' args)
    (own : ownKnob C.prog.godebug = none) (started : os.Started) (noInit : C.prog.inits.idxOf? f = none) (hfn : C.prog.funcs[f]? = some fn)
    (witness : ∃ (w : World) (tape : Tape) (i : Input), w.os = os ∧ (w.forCall tape i).Shaped C.prog ∧ i.vars = [] ∧ Input.okWide C.prog (w.forCall tape i) .any w.heap.size f i ∧
      ((s.pre enc C.prog fn conds apart (w.forCall tape i).memory i.args ∧ X (w.forCall tape i).memory i.args) ∧ sizedMet enc C.prog fn (OpenSpec.ofChange s) apart (w.forCall tape i).memory i.args) ∧ a.holds C.prog (lone (Frame.enter C.prog f i.args .normal) [] (w.forCall tape i)))
    (walk : ∀ (W : World) (base : Nat) (args : Array Value) (ds gs : List (DataW H)) (before : List MemPlace),
      (∀ (j : Nat) t v, fn.params[j]? = some t → args[j]? = some v → Value.okWide C.prog W .any base t v) →
      DataW.Whole enc C.prog fn.params.toList s.vars apart W args.toList ds gs before → X W args → W.ShapedOpen C.prog →
      Calls C.prog f args W fun e W' => ∃ v, e = .returned v ∧ s.post enc C.prog fn apart fresh handsOn again W args v W') :
    ReturnsInHanded a C os f .any (fun w args => (s.pre enc C.prog fn conds apart w args ∧ X w args) ∧ sizedMet enc C.prog fn (OpenSpec.ofChange s) apart w args) (s.post enc C.prog fn apart fresh handsOn again) := by
  refine returnsInHanded_of_calls own started noInit witness ?_
  intro w tape i _ hsh _ hok hpre _
  obtain ⟨_, _, _, fn', hfn', _, _, _, _, hval⟩ := hok
  obtain rfl : fn' = fn := Option.some.inj (hfn'.symm.trans hfn)
  obtain ⟨⟨⟨ds, gs, before, hw, _⟩, hx⟩, _⟩ := hpre
  refine (walk (w.forCall tape i) w.heap.size i.args ds gs before hval (DataW.Whole.of_heap (w' := w.forCall tape i) (by rfl) hw) (hX _ _ _ (by rfl) hx) hsh).mono fun e W' ⟨v, he, hp⟩ => ?_
  subst he
  exact ChangeSpec.post_blind hp
end Go.Proofs.YtnhmlneebnkjcaaDoor.X
namespace Go.Proofs.YtnhmlneebnkjcaaDoor.caskBack
open Go Go.ChangeShapes Go.WideShapes Go.ChangeAt Go.RowKit
open Go.ChangeMaps (open_string shut_string)
open Go.Proofs.YtnhmlneebnkjcaaDoorW.PrintWords Go.Proofs.YtnhmlneebnkjcaaDoor.O Go.Proofs.YtnhmlneebnkjcaaDoor.Opn Go.Proofs.YtnhmlneebnkjcaaDoor.Pr Go.Proofs.YtnhmlneebnkjcaaDoor.X
theorem own : ownKnob Tryd.prog.godebug = none := by kernel_rfl
theorem laidOut : laidOutB Tryd.prog = true := by kernel_rfl
abbrev laidL : List (String × DataW Unit) := [("math/bits.deBruijn32tab", Rows.laid_math_bits_deBruijn32tab), ("math/bits.deBruijn64tab", Rows.laid_math_bits_deBruijn64tab), ("internal/strconv.uint64pow10", Rows.laid_internal_strconv_uint64pow10), ("unicode/utf8.acceptRanges", Rows.laid_unicode_utf8_acceptRanges), ("unicode/utf8.first", Rows.laid_unicode_utf8_first)]
set_option maxRecDepth 100000 in
theorem lifted (os : Os) (started : os.Started) (H : Type) (enc : TypeId × Value → H) :
    ReturnsInHanded {} Tryd.checked os 6 .any (fun w args => (Rows.caskBackSpec.pre enc Tryd.prog Tryd.f6 [] false w args ∧ laidMetH Tryd.prog laidL w) ∧ sizedMet enc Tryd.prog Tryd.f6 (OpenSpec.ofChange Rows.caskBackSpec) false w args)
      (Rows.caskBackSpec.post enc Tryd.prog Tryd.f6 false true false false) := by
  refine wrap_shaped (C := Tryd.checked) (X := (fun w _ => laidMetH Tryd.prog laidL w)) (fun _ _ _ hh h => h.of_heap hh) own started (by kernel_rfl) Tryd.func6
    (ChangeSpec.witness_shaped (enc := enc) (C := Tryd.checked) (os := os) (X := (fun w _ => laidMetH Tryd.prog laidL w)) false (World.laidAll Tryd.prog os laidL) #[.slice none 0 0] 8 (World.laidAll_os _ _ _) (World.shaped_of_ZipB (by kernel_rfl) (by kernel_rfl)) (by kernel_rfl) (by kernel_rfl) (by kernel_rfl) (by rw [MakeChecks.laidMetH_plain _ _ _ (by kernel_rfl)]; exact laidMet_laidAll _ (by kernel_rfl) (by kernel_rfl))) ?_
  intro W base args ds gs before hval0 hW hL hsh
  have hval : ∀ (j : Nat) t v, Tryd.f6.params[j]? = some t → args[j]? = some v → Value.okWide Tryd.prog W .any base t v := hval0
  have hW' := hW
  obtain ⟨p, q, hA0, hV, rfl, hfz, hnd⟩ := hW
  have hA : DataW.TrodAll enc Tryd.prog W 0 (fun _ => true) true Tryd.f6.params.toList args.toList ds p := hA0
  rw [Tryd.params6] at hA hval
  obtain ⟨v0, vs0, d0, ds0, p0, q0, hargs, rfl, rfl, h0, r0⟩ := trodAll_cons hA
  obtain ⟨rfl, rfl, rfl⟩ := trodAll_nil r0
  obtain rfl : args = #[v0] := by cases args; simp_all
  obtain ⟨rfl, rfl⟩ := trodVars_none hV
  obtain ⟨a0_, len0_, cap0_, rfl⟩ := okWide_slice Tryd.underlying22 (hval 0 22 v0 rfl rfl)
  have k0 := h0
  have lt0 : ∀ x ∈ p0, x.block < W.heap.size := by obtain ⟨m, hm⟩ := k0; exact DataW.trod_lt m _ _ _ hm
  obtain ⟨l0, K0, ok0⟩ : ∃ x, (Kd.slice 27 k27).K W x [.slice a0_ len0_ cap0_] ∧ (x.length ≤ maxLen ∧ ∀ x0_, x0_ ∈ x → ok27 x0_) := by
    obtain ⟨fuel, hf⟩ := h0
    exact opens22.2 _ _ _ _ _ _ _ _ _ hf
  obtain ⟨A0, c0, e0, g0, hr0⟩ := K0
  simp only [List.cons.injEq, Value.slice.injEq, and_true] at e0
  obtain ⟨rfl, rfl, rfl⟩ := e0
  clear hA0 hval0
  obtain ⟨k, hp⟩ := Pure.CaskBack l0 ok0
  have hG : GI W := GI.of_laid laidL (by simp [laidL]) hL hsh
  refine (spilelaw09_CaskBack.calls k _ _ l0 true W hr0 g0 hG rfl hp).mono fun e W' ⟨he, bel⟩ => ?_
  subst he
  exact ⟨_, rfl, _, _, _, [], _, [], hW', trodAll_mk1 (shut_bool Tryd.underlying4 _), (trodAll_cons_mk (Below.trod laidOut (by kernel_rfl) (of_decide_eq_true (by kernel_rfl)) k0 bel lt0) trodAll_mk0), rfl, bel.frame _, fun h => by cases h⟩
theorem holds : Rows.CaskBackSaid :=
  OpenClaim.holds_of_wide 6 Tryd.f6 rfl rfl rfl rfl rfl rfl rfl ⟨rfl, rfl, rfl, rfl, rfl⟩ rfl rfl rfl rfl rfl (by kernel_rfl) Tryd.func6 (by kernel_rfl)
    (of_decide_eq_true (by kernel_rfl)) (by unfold Func.isWrapper; first | (rw [if_pos (by decide +kernel)]; kernel_rfl) | (rw [if_neg (by decide +kernel)]; exact ⟨rfl, rfl⟩))
    (fun os started H enc _ => lifted os started H enc)
theorem card : Rows.CaskBackCardSaid :=
  Claim7.holds_tied_plain_at .later [] [.data, .data, .data, .data, .pinned] true (true, "a11ba1a8ff04589e84bf96506875e99c97846a736c580a21adffadd5e088390c") false
    holds (fun _ h => by cases h) (by kernel_rfl) (fun _ h => by cases h) caskBack_row_tie rfl ⟨rfl, rfl⟩ (by kernel_rfl) rfl
    (fun f fn hf hfn => by
      obtain rfl : f = 6 := Option.some.inj ((show Tryd.prog.funcNamed "spile/spilelaw09.CaskBack" = some 6 by kernel_rfl).symm.trans hf) |>.symm
      obtain rfl : fn = Tryd.f6 := (Option.some.inj (Tryd.func6.symm.trans hfn)).symm
      exact ⟨by kernel_rfl, fun j t ht => by
        rw [Tryd.params6] at ht
        have hm : t ∈ [22] := by simpa using Array.mem_of_getElem? ht
        have hall : ([22].all fun u => !Tryd.prog.wantsStandIn u) = true := by kernel_rfl
        exact (show Tryd.prog.wantsStandIn t = false by simpa using List.all_eq_true.1 hall t hm)⟩)
    (by kernel_rfl)
end Go.Proofs.YtnhmlneebnkjcaaDoor.caskBack
namespace Go.Proofs.YtnhmlneebnkjcaaDoor
/-- The card, under a short name, for the claim. -/
theorem caskBack_holds : Rows.CaskBackCardSaid := caskBack.card
#print axioms caskBack_holds
end Go.Proofs.YtnhmlneebnkjcaaDoor
