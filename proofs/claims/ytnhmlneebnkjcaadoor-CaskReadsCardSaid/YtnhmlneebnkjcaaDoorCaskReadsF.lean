/-
The law CaskReads returns true for every input that can be read as data, and leaves its arguments as they were: the row, and the card that ties the listed variables to the program's text.
No condition of its own beyond those that the given row prints.
-/
import Derived.HandedShaped
import Derived.Handed
import Derived.Test.YtnhmlneebnkjcaaDoorCards
import Derived.Test.YtnhmlneebnkjcaaDoorTie
import Derived.ProofKit
import Derived.OpenShut
import Derived.ShutString
import Derived.ChangeOld
import Derived.SizedLaws
import Derived.LaidMore
import Derived.Lay
import Derived.MakeChecks
import Derived.SevenTiedAt
import Derived.LaidSub
import Derived.LaidOnce
import Derived.Stop.Joined
import Derived.Stop.LaidErr
import Derived.Test.YtnhmlneebnkjcaaDoorCaskReadsE
set_option linter.unusedVariables false
set_option linter.unusedSimpArgs false
namespace Go.Proofs.YtnhmlneebnkjcaaDoor.PL
open Go Go.RowKit Go.Proofs.YtnhmlneebnkjcaaDoorW.PrintWords Go.Proofs.YtnhmlneebnkjcaaDoorW.PrintLast Go.Proofs.YtnhmlneebnkjcaaDoorW.PrintMore Go.Proofs.YtnhmlneebnkjcaaDoor.Pr Go.Proofs.YtnhmlneebnkjcaaDoor.TX Go.Proofs.YtnhmlneebnkjcaaDoor.X
/-- What the lines of a text come to, from a state. -/
def runC (e : Bool) : List (List UInt8) → Nat → Bool → List S27 → Except Nat (List S27)
  | [], n, o, acc => if o = true then .error n else .ok acc
  | l :: r, n, o, acc => if r = [] ∧ e = false then .error n else if o = true ∧ l = cEnd then runC e r (n + 1) false acc
      else if o = true then (match inL (parts 32 l) with
        | none => .error n
        | some q => runC e r (n + 1) true (addPt acc q))
      else (match outL (parts 32 l) with
        | none => .error n
        | some q => runC e r (n + 1) true (acc ++ [q]))
theorem runC_cons (e : Bool) (l : List UInt8) (r : List (List UInt8)) (n : Nat) (o : Bool) (acc : List S27) : runC e (l :: r) n o acc = if r = [] ∧ e = false then .error n else if o = true ∧ l = cEnd then runC e r (n + 1) false acc
      else if o = true then (match inL (parts 32 l) with
        | none => .error n
        | some q => runC e r (n + 1) true (addPt acc q))
      else (match outL (parts 32 l) with
        | none => .error n
        | some q => runC e r (n + 1) true (acc ++ [q])) := rfl
def EndsP : Except Nat (List S27) → List S27 × Int × Int → Prop
  | .error n, r => r = ([], (n : Int), 3)
  | .ok acc, r => SmL acc ∧ ∃ e, Ev (fun k => cask_List.f k acc) e ∧ r = if e = 0 then (acc, 0, 0) else ([], 0, e)
theorem EndsP.uniq {x : Except Nat (List S27)} {r s : List S27 × Int × Int} (h : EndsP x r) (g : EndsP x s) : r = s := by
  cases x with
  | error n => exact h.trans g.symm
  | ok acc =>
    obtain ⟨_, e, e1, rfl⟩ := h
    obtain ⟨_, f, f1, rfl⟩ := g
    rw [ev_unique e1 f1]
def InvA (acc : List S27) (n : Nat) : Prop := acc.length ≤ n ∧ ∀ x, x ∈ acc → x.f0.size ≤ 70000 ∧ x.f2.length ≤ n
theorem InvA.sm {acc : List S27} {n : Nat} (h : InvA acc n) (hn : n ≤ 200000) : SmL acc := ⟨by have := h.1; omega, fun x hx => ⟨by have := (h.2 x hx).1; omega, by have := (h.2 x hx).2; omega⟩⟩
theorem InvA.up {acc : List S27} {n : Nat} (h : InvA acc n) : InvA acc (n + 1) := ⟨Nat.le_succ_of_le h.1, fun x hx => ⟨(h.2 x hx).1, Nat.le_succ_of_le (h.2 x hx).2⟩⟩
theorem part_le (c : UInt8) : ∀ s p : List UInt8, p ∈ parts c s → p.length ≤ s.length
  | [], p, h => by simp [parts] at h; simp [h]
  | b :: r, p, h => by
    rw [parts_cons] at h
    by_cases e : b = c
    · rw [if_pos e] at h
      rcases List.mem_cons.1 h with h | h
      · simp [h]
      · have := part_le c r p h; simp; omega
    · rw [if_neg e] at h
      cases hp : parts c r with
      | nil => exact absurd hp (parts_ne c r)
      | cons q t =>
        rw [hp] at h
        rcases List.mem_cons.1 h with h | h
        · have := part_le c r q (by rw [hp]; simp)
          rw [h]; simp; omega
        · have := part_le c r p (by rw [hp]; exact List.mem_cons_of_mem _ h); simp; omega
theorem outL_some {ws : List (List UInt8)} {q : S27} (h : outL ws = some q) : ∃ a b c d e v, ws = [a, b, c, d, e] ∧ a = cCask ∧ b ≠ [] ∧ d = cDecl ∧ posL c = some q.f1 ∧ numP 10 e = some v ∧ q = ⟨ba b, q.f1, [], (v : Int)⟩ := by
  by_cases h5 : ws.length = 5
  case neg => rw [outL_len h5] at h; cases h
  obtain ⟨a, b, c, d, e, rfl⟩ := five h5
  rw [outL5] at h
  by_cases hc : a = cCask ∧ b ≠ [] ∧ d = cDecl
  case neg => rw [if_neg hc] at h; cases h
  rw [if_pos hc] at h
  cases hp : posL c with
  | none => rw [hp] at h; cases h
  | some p =>
    rw [hp] at h
    cases hn : numP 10 e with
    | none => rw [hn] at h; cases h
    | some v =>
      rw [hn] at h
      cases h
      exact ⟨a, b, c, d, e, v, rfl, hc.1, hc.2.1, hc.2.2, hp, hn, rfl⟩
theorem InvA.out {acc : List S27} {n : Nat} {l : List UInt8} {q : S27} (h : InvA acc n) (hq : outL (parts 32 l) = some q) (hl : l.length ≤ 70000) : InvA (acc ++ [q]) (n + 1) := by
  obtain ⟨a, b, c, d, e, v, hw, _, _, _, _, _, hq2⟩ := outL_some hq
  have hb := part_le 32 l b (by rw [hw]; simp)
  refine ⟨by rw [List.length_append]; have := h.1; simp; omega, fun x hx => ?_⟩
  rcases List.mem_append.1 hx with hx | hx
  · have := h.2 x hx; exact ⟨this.1, by omega⟩
  · rw [List.mem_singleton] at hx
    rw [hx, hq2]
    exact ⟨by show (ba b).size ≤ _; rw [ba_size]; omega, by simp⟩
theorem InvA.pt {acc : List S27} {n : Nat} (h : InvA acc n) (p : S46) (hne : acc ≠ []) : InvA (addPt acc p) (n + 1) := by
  have hl : 0 < acc.length := List.length_pos_iff.2 hne
  unfold addPt
  refine ⟨by rw [List.length_set]; have := h.1; omega, fun x hx => ?_⟩
  rcases List.mem_or_eq_of_mem_set hx with hx | hx
  · have := h.2 x hx; exact ⟨this.1, by omega⟩
  · have := h.2 _ (rd27_mem (l := acc) (i := (acc.length : Int) - 1) (by omega) (by omega))
    rw [hx]
    exact ⟨this.1, by simp; omega⟩
theorem addPt_ne {acc : List S27} (p : S46) (h : acc ≠ []) : addPt acc p ≠ [] := by
  intro e
  have := congrArg List.length e
  unfold addPt at this
  rw [List.length_set] at this
  exact h (List.length_eq_zero_iff.1 (by simpa using this))
theorem go_ev (e : Bool) : ∀ (ls : List (List UInt8)) (s : List UInt8) (n : Nat) (o : Bool) (acc : List S27), lin [] s = (ls, e) → s.length ≤ 65536 → n + ls.length ≤ 140000 → (o = true → acc ≠ []) → InvA acc n →
    ∃ r, Ev (fun k => cask_Parse.go k (ba s) (n : Int) o acc) r ∧ EndsP (runC e ls n o acc) r
  | [], s, n, o, acc, h, hs, hn, ho, hi => by
    obtain ⟨rfl, rfl⟩ := lin_nil h
    cases o with
    | true => exact ⟨_, Ev.step (fun k => cask_Parse.go.eq_2 ..) (evp (ba_toList []) (evp rfl (Ev.now _))), rfl⟩
    | false =>
      have sm := hi.sm (by simp at hn; omega)
      obtain ⟨f, f1, _⟩ := list_both acc sm
      refine ⟨if f = 0 then (acc, 0, 0) else ([], 0, f), Ev.step (fun k => cask_Parse.go.eq_2 ..) (evp (ba_toList []) (evn (by decide) (evb f1 ?_))), sm, f, f1, rfl⟩
      by_cases z : f = 0
      · exact evp z (evr (if_pos z).symm)
      · exact evn z (evr (if_neg z).symm)
  | l :: r, s, n, o, acc, h, hs, hn, ho, hi => by
    obtain ⟨h1, h2, hne, hll⟩ := lin_next h
    have hn' : n + (r.length + 1) ≤ 140000 := by simpa using hn
    have hcut := cut_ev (ba s) (by rw [ba_size]; omega)
    rw [ba_list, h1] at hcut
    rw [runC_cons]
    have pre : ∀ x, Ev (fun k => if (cut1 10 s).2.2 = true then (if o = true ∧ (ba l).toList = ([101, 110, 100] : List UInt8) then cask_Parse.go k (ba (cut1 10 s).2.1) (wrap64 ((n : Int) + 1)) false acc
      else (strings_Split.f (ba l) ⟨#[32]⟩).bind fun ws => if o = true then (if 0 < acc.length ∧ acc.length < 4294967296 ∧ (rd_T27 acc ((acc.length : Int) - 1)).f2.length < 4294967296 then (cask_inside.f k ws).bind fun p => match p with
          | none => some ([], (n : Int), 3)
          | some q => cask_Parse.go k (ba (cut1 10 s).2.1) (wrap64 ((n : Int) + 1)) true (addPt acc q) else none)
        else (if acc.length < 4294967296 then (cask_outside.f k ws).bind fun p => match p with
          | none => some ([], (n : Int), 3)
          | some q => cask_Parse.go k (ba (cut1 10 s).2.1) (wrap64 ((n : Int) + 1)) true (acc ++ [q]) else none))
      else some ([], (n : Int), 3)) x → Ev (fun k => cask_Parse.go k (ba s) (n : Int) o acc) x := fun x hx =>
        Ev.step (fun k => cask_Parse.go.eq_2 ..) (evn (by rw [ba_toList]; exact hne) (evb (evc (fun _ => rfl) hcut) hx))
    rcases h2 with ⟨c, hrest⟩ | ⟨c, hr0, hr1, he⟩
    case inr =>
      rw [if_pos ⟨hr1, he⟩]
      exact ⟨_, pre _ (evn (by rw [c]; decide) (Ev.now _)), rfl⟩
    have hne2 : ¬ (r = [] ∧ e = false) := by
      rintro ⟨rfl, rfl⟩
      have := (lin_nil hrest).2
      cases this
    rw [if_neg hne2]
    have hlen := cut1_len 10 s c
    have w : wrap64 ((n : Int) + 1) = ((n + 1 : Nat) : Int) := by rw [w64 (by omega) (by omega)]; omega
    rw [w] at pre
    by_cases ce : o = true ∧ l = cEnd
    · rw [if_pos ce]
      obtain ⟨x, x1, x2⟩ := go_ev e r _ (n + 1) false acc hrest (by omega) (by omega) (fun z => by cases z) hi.up
      exact ⟨x, pre _ (evp c (evp (by rw [ba_toList]; exact ce) x1)), x2⟩
    rw [if_neg ce]
    have hsp := split_ev (ba l) (by rw [ba_size]; omega)
    rw [ba_list] at hsp
    cases o with
    | true =>
      rw [if_pos rfl]
      have hacc := ho rfl
      have hl0 : 0 < acc.length := List.length_pos_iff.2 hacc
      have hg : 0 < acc.length ∧ acc.length < 4294967296 ∧ (rd_T27 acc ((acc.length : Int) - 1)).f2.length < 4294967296 := ⟨hl0, by have := hi.1; omega, by have := (hi.2 _ (rd27_mem (l := acc) (i := (acc.length : Int) - 1) (by omega) (by omega))).2; omega⟩
      have hin := inside_ev (parts 32 l)
      have pre2 : ∀ x, Ev (fun k => match inL (parts 32 l) with
          | none => some ([], (n : Int), 3)
          | some q => cask_Parse.go k (ba (cut1 10 s).2.1) ((n + 1 : Nat) : Int) true (addPt acc q)) x → Ev (fun k => cask_Parse.go k (ba s) (n : Int) true acc) x := fun x hx =>
        pre x (evp c (evn (by rw [ba_toList]; exact ce) (evb (evc (fun _ => rfl) hsp) (evp rfl (evp hg (evb hin hx))))))
      cases hq : inL (parts 32 l) with
      | none => rw [hq] at pre2; exact ⟨_, pre2 _ (Ev.now _), rfl⟩
      | some q =>
        rw [hq] at pre2
        obtain ⟨x, x1, x2⟩ := go_ev e r _ (n + 1) true (addPt acc q) hrest (by omega) (by omega) (fun _ => addPt_ne q hacc) (hi.pt q hacc)
        exact ⟨x, pre2 _ x1, x2⟩
    | false =>
      rw [if_neg (show ¬ (false = true) by decide)]
      have hg : acc.length < 4294967296 := by have := hi.1; omega
      have hout := outside_ev (parts 32 l) (fun w hw => by have := part_le 32 l w hw; omega)
      have pre2 : ∀ x, Ev (fun k => match outL (parts 32 l) with
          | none => some ([], (n : Int), 3)
          | some q => cask_Parse.go k (ba (cut1 10 s).2.1) ((n + 1 : Nat) : Int) true (acc ++ [q])) x → Ev (fun k => cask_Parse.go k (ba s) (n : Int) false acc) x := fun x hx =>
        pre x (evp c (evn (by rw [ba_toList]; exact ce) (evb (evc (fun _ => rfl) hsp) (evn (by decide) (evp hg (evb hout hx))))))
      cases hq : outL (parts 32 l) with
      | none => rw [hq] at pre2; exact ⟨_, pre2 _ (Ev.now _), rfl⟩
      | some q =>
        rw [hq] at pre2
        obtain ⟨x, x1, x2⟩ := go_ev e r _ (n + 1) true (acc ++ [q]) hrest (by omega) (by omega) (fun _ => by simp) (hi.out hq (by omega))
        exact ⟨x, pre2 _ x1, x2⟩
theorem parts_one {p w : List UInt8} (h : parts 32 p = [w]) : p = w := by
  have := glue_parts 32 p
  rw [h] at this
  exact this.symm
theorem ref_parse (s : ByteArray) (hs : (s.size : Int) ≤ 65536) : ∀ i, 0 ≤ i → i ≤ (s.size : Int) → ∀ (fr : Int) (acc : List S27) (o : Bool) (n : Nat), 0 ≤ fr → fr ≤ i → (n : Int) ≤ i → (o = true → acc ≠ []) → InvA acc n →
    ∃ r, Ev (fun k => spileref09_Parse.l0 k s acc o (n : Int) fr i) r ∧ EndsP (runC (lin ((s.data.toList.take i.toNat).drop fr.toNat) (s.data.toList.drop i.toNat)).2 (lin ((s.data.toList.take i.toNat).drop fr.toNat) (s.data.toList.drop i.toNat)).1 (n + 1) o acc) r := by
  refine count_up 0 (s.size : Int) _ ?_ ?_
  · intro fr acc o n h0 h1 h2 ho hi
    rw [drop_end, take_end]
    have w : wrap64 ((n : Int) + 1) = ((n + 1 : Nat) : Int) := by rw [w64 (by omega) (by omega)]; omega
    have bad : Ev (fun k => spileref09_Parse.j2 k acc (n : Int) true) ([], ((n + 1 : Nat) : Int), 3) := Ev.step (fun k => spileref09_Parse.j2.eq_2 ..) (evp rfl (evr (by rw [w])))
    by_cases c : fr < (s.size : Int)
    · have hne : ¬ s.data.toList.drop fr.toNat = [] := fun e => by
        have := congrArg List.length e
        rw [List.length_drop, size_data] at this
        simp at this; omega
      unfold lin
      rw [if_neg hne]
      refine ⟨_, Ev.step (fun k => spileref09_Parse.l0.eq_2 ..) (evn (by omega) (evp c bad)), ?_⟩
      show EndsP (runC false [_] (n + 1) o acc) _
      rw [runC_cons, if_pos ⟨rfl, rfl⟩]
      rfl
    · have he : s.data.toList.drop fr.toNat = [] := List.drop_eq_nil_of_le (by rw [size_data]; omega)
      rw [he]
      cases o with
      | true => exact ⟨_, Ev.step (fun k => spileref09_Parse.l0.eq_2 ..) (evn (by omega) (evn c bad)), rfl⟩
      | false =>
        have sm := hi.sm (by omega)
        obtain ⟨f, f1, f2, _⟩ := list_both acc sm
        refine ⟨if f = 0 then (acc, 0, 0) else ([], 0, f), Ev.step (fun k => spileref09_Parse.l0.eq_2 ..) (evn (by omega) (evn c (Ev.step (fun k => spileref09_Parse.j2.eq_2 ..) (evn (by decide) (evb f2 ?_))))), sm, f, f1, rfl⟩
        by_cases z : f = 0
        · exact evp z (evr (if_pos z).symm)
        · exact evn z (evr (if_neg z).symm)
  · intro i h0 h1 ih fr acc o n g0 g1 g2 ho hi
    obtain ⟨b, e1, e2, e3⟩ := byte_at s h0 h1
    have HW := Aside0.mk (show wrap64 (i + 1) = i + 1 from w64 (by omega) (by omega))
    have hlen : fr.toNat ≤ (s.data.toList.take i.toNat).length := by rw [List.length_take, size_data]; omega
    by_cases c : b = 10
    case neg =>
      obtain ⟨x, x1, x2⟩ := ih fr acc o n g0 (by omega) (by omega) ho hi
      rw [e2, List.drop_append_of_le_length hlen] at x2
      rw [e1, lin_cons, if_neg c]
      refine ⟨x, Ev.step (fun k => spileref09_Parse.l0.eq_2 ..) (evp h1 (evp h0 ?_)), x2⟩
      rw [e3, HW.out]
      exact evn (fun h => c ((toNat_eq b 10 (by decide)).1 h)) x1
    have z : (s.data.toList.take (i + 1).toNat).drop (i + 1).toNat = [] := List.drop_eq_nil_of_le (by rw [List.length_take]; omega)
    have ih2 : ∀ (acc : List S27) (o : Bool) (n : Nat), (n : Int) ≤ i + 1 → (o = true → acc ≠ []) → InvA acc n →
        ∃ r, Ev (fun k => spileref09_Parse.l0 k s acc o (n : Int) (i + 1) (i + 1)) r ∧ EndsP (runC (lin [] (s.data.toList.drop (i + 1).toNat)).2 (lin [] (s.data.toList.drop (i + 1).toNat)).1 (n + 1) o acc) r := by
      intro acc o n c d e
      have q := ih (i + 1) acc o n (by omega) (by omega) c d e
      rw [z] at q
      exact q
    clear ih
    rw [e1, lin_cons, if_pos c]
    generalize hP : (s.data.toList.take i.toNat).drop fr.toNat = P
    have hPl : P.length ≤ 65536 := by
      rw [← hP, List.length_drop, List.length_take, size_data]; omega
    generalize hL : lin [] (s.data.toList.drop (i + 1).toNat) = L at ih2 ⊢
    have hne2 : ¬ (L.1 = [] ∧ L.2 = false) := by
      rintro ⟨q1, q2⟩
      have := (lin_nil (s := s.data.toList.drop (i + 1).toNat) (e := L.2) (by rw [hL, ← q1])).2
      rw [q2] at this
      cases this
    show ∃ r, _ ∧ EndsP (runC L.2 (P :: L.1) (n + 1) o acc) r
    rw [runC_cons, if_neg hne2]
    have WN := Aside0.mk (show wrap64 ((n : Int) + 1) = ((n + 1 : Nat) : Int) from by rw [w64 (by omega) (by omega)]; omega)
    have hi1 : InvA acc (n + 1) := hi.up
    have hwd := words9_ev (ba P) (by rw [ba_size]; omega)
    rw [ba_list] at hwd
    have hex : s.extract fr.toNat i.toNat = ba P := by rw [ba_ex, hP]
    have pre : ∀ x, Ev (fun k => (spileref09_Words.f k (ba P)).bind fun bt315 => (if bt315.2 = true then (if o = true then (if (bt315.1.length : Int) = 1 then (if 0 < (bt315.1.length : Int) then (spileref09_Parse.j1 k s acc o ((n + 1 : Nat) : Int) (i + 1) i bt315.1 ((rdOf ByteArray.empty bt315.1 0).toList == ([101, 110, 100] : List UInt8))) else (none)) else (spileref09_Parse.j1 k s acc o ((n + 1 : Nat) : Int) (i + 1) i bt315.1 false)) else ((spileref09_head.f k bt315.1).bind fun bt319 => (if bt319.2.2.2.2 = true then (if acc.length < 2513169434916 then (spileref09_Parse.l0 k s (acc ++ [(⟨bt319.1, bt319.2.1, bt319.2.2.1, bt319.2.2.2.1⟩ : S27)]) true ((n + 1 : Nat) : Int) (i + 1) (i + 1)) else (none)) else (some (([] : List (S27)), ((n + 1 : Nat) : Int), 3))))) else (some (([] : List (S27)), ((n + 1 : Nat) : Int), 3)))) x →
        Ev (fun k => spileref09_Parse.l0 k s acc o (n : Int) fr i) x := by
      intro x hx
      refine Ev.step (fun k => spileref09_Parse.l0.eq_2 ..) (evp h1 (evp h0 ?_))
      rw [e3, HW.out, WN.out]
      refine evp ((toNat_eq b 10 (by decide)).2 c) (evp g0 (evp g1 (evp (by omega) ?_)))
      rw [hex]
      exact hx
    have badx : EndsP (.error (n + 1)) ([], ((n + 1 : Nat) : Int), 3) := rfl
    by_cases hm : ([] : List UInt8) ∈ parts 32 P
    · rw [if_pos hm] at hwd
      have hce : ¬ (o = true ∧ P = cEnd) := by
        rintro ⟨_, rfl⟩
        revert hm; decide
      rw [if_neg hce, inL_nil hm, outL_nil hm]
      refine ⟨([], ((n + 1 : Nat) : Int), 3), pre _ (evb hwd (evn (by decide) (Ev.now _))), ?_⟩
      split <;> exact badx
    rw [if_neg hm] at hwd
    have hbnd : ∀ w, w ∈ parts 32 P → w.length ≤ 100000 := fun w hw2 => by have := part_le 32 P w hw2; omega
    cases o with
    | false =>
      rw [if_neg (fun q => by cases q.1), if_neg (show ¬ (false = true) by decide)]
      obtain ⟨r, r1, r2⟩ := head_ev (parts 32 P) hm hbnd
      cases hq : outL (parts 32 P) with
      | none =>
        rw [hq] at r2
        exact ⟨_, pre _ (evb hwd (evp rfl (evn (by decide) (evb r1 (evn (by rw [show r.2.2.2.2 = false from r2]; decide) (Ev.now _)))))), badx⟩
      | some q =>
        rw [hq] at r2
        have r2 : r = (q.f0, q.f1, q.f2, q.f3, true) := r2
        subst r2
        obtain ⟨x, x1, x2⟩ := ih2 (acc ++ [q]) true (n + 1) (by omega) (fun _ => by simp) (hi.out hq (by omega))
        exact ⟨x, pre _ (evb hwd (evp rfl (evn (by decide) (evb r1 (evp rfl (evp (by have := hi.1; omega) x1)))))), x2⟩
    | true =>
      have hacc := ho rfl
      have hl0 : 0 < acc.length := List.length_pos_iff.2 hacc
      have hal := hi.1
      by_cases ce : P = cEnd
      · rw [if_pos ⟨rfl, ce⟩]
        subst ce
        obtain ⟨x, x1, x2⟩ := ih2 acc false (n + 1) (by omega) (fun q => by cases q) hi1
        refine ⟨x, pre _ (evb hwd (evp rfl (evp rfl (evp rfl (evp (by decide) (Ev.step (fun k => spileref09_Parse.j1.eq_2 ..) (evp (by show ((ba cEnd).toList == cEnd) = true; rw [ba_toList]; rfl) ?_))))))), x2⟩
        rw [HW.out]
        exact x1
      · rw [if_neg (fun q => ce q.2), if_pos rfl]
        obtain ⟨r, r1, r2⟩ := point_ev (parts 32 P) hbnd
        have WL := Aside0.mk (show wrap64 ((acc.length : Int) - 1) = (acc.length : Int) - 1 from w64 (by omega) (by omega))
        have tail : ∀ x, Ev (fun k => (spileref09_point.f k ((parts 32 P).map ba)).bind fun bt331 => (if bt331.2.2 = true then (spileref09_Parse.l0 k s (addPt acc ⟨bt331.1, bt331.2.1⟩) true ((n + 1 : Nat) : Int) (i + 1) (i + 1)) else (some (([] : List (S27)), ((n + 1 : Nat) : Int), 3)))) x →
            Ev (fun k => spileref09_Parse.j1 k s acc true ((n + 1 : Nat) : Int) (i + 1) i ((parts 32 P).map ba) false) x := by
          intro x hx
          refine Ev.step (fun k => spileref09_Parse.j1.eq_2 ..) (evn (by decide) ?_)
          refine Ev.congr (fun k => ?_) hx
          refine congrArg (Option.bind (spileref09_point.f k ((parts 32 P).map ba))) (funext fun bt => ?_)
          rw [WL.out, HW.out]
          have hbig : (rd_T27 acc ((acc.length : Int) - 1)).f2.length < 8796093022208 := by have := (hi.2 _ (rd27_mem (l := acc) (i := (acc.length : Int) - 1) (by omega) (by omega))).2; omega
          rw [if_pos (show 0 ≤ (acc.length : Int) - 1 by omega), if_pos (show (acc.length : Int) - 1 < (acc.length : Int) by omega), if_pos hbig]
          rfl
        have pre2 : ∀ x, Ev (fun k => spileref09_Parse.j1 k s acc true ((n + 1 : Nat) : Int) (i + 1) i ((parts 32 P).map ba) false) x → Ev (fun k => spileref09_Parse.l0 k s acc true (n : Int) fr i) x := by
          intro x hx
          by_cases c1 : (((parts 32 P).map ba).length : Int) = 1
          · refine pre x (evb hwd (evp rfl (evp rfl (evp c1 (evp (by show 0 < (((parts 32 P).map ba).length : Int); omega) ?_)))))
            have c1' : (parts 32 P).length = 1 := by rw [List.length_map] at c1; omega
            obtain ⟨u, hu⟩ := List.length_eq_one_iff.1 c1'
            have : P = u := parts_one hu
            subst this
            rw [hu]
            have e0 : rdOf ByteArray.empty ([P].map ba) 0 = ba P := rfl
            simp only []
            rw [e0, ba_toList, show (P == ([101, 110, 100] : List UInt8)) = false from beq_eq_false_iff_ne.2 ce]
            rw [hu] at hx
            exact hx
          · exact pre x (evb hwd (evp rfl (evp rfl (evn c1 hx))))
        cases hq : inL (parts 32 P) with
        | none =>
          rw [hq] at r2
          exact ⟨_, pre2 _ (tail _ (evb r1 (evn (by rw [show r.2.2 = false from r2]; decide) (Ev.now _)))), badx⟩
        | some q =>
          rw [hq] at r2
          have r2 : r = (q.f0, q.f1, true) := r2
          subst r2
          obtain ⟨x, x1, x2⟩ := ih2 (addPt acc q) true (n + 1) (by omega) (fun _ => addPt_ne q hacc) (hi.pt q hacc)
          exact ⟨x, pre2 _ (tail _ (evb r1 (evp rfl x1))), x2⟩
/-- What a text comes to. -/
def readT (s : List UInt8) : Except Nat (List S27) := runC (lin [] s).2 (lin [] s).1 1 false []
theorem parse_both (s : ByteArray) : ∃ r, Ev (fun k => cask_Parse.f k s) r ∧ Ev (fun k => spileref09_Parse.f k s) r ∧ ((s.size : Int) ≤ 65536 → EndsP (readT s.data.toList) r) := by
  by_cases c : (s.size : Int) > 65536
  · exact ⟨([], 0, 8), evp c (Ev.now _), evp c (Ev.now _), fun h => by omega⟩
  have hsz := size_data s
  have inv : InvA ([] : List S27) 0 := ⟨Nat.le_refl _, fun x hx => by cases hx⟩
  have inv1 : InvA ([] : List S27) 1 := ⟨by simp, fun x hx => by cases hx⟩
  have hll := lin_len s.data.toList []
  obtain ⟨r, r1, r2⟩ := go_ev (lin [] s.data.toList).2 (lin [] s.data.toList).1 s.data.toList 1 false [] rfl (by omega) (by omega) (fun q => by cases q) inv1
  rw [ba_data] at r1
  obtain ⟨q, q1, q2⟩ := ref_parse s (by omega) 0 (by omega) (by omega) 0 [] false 0 (by omega) (by omega) (by omega) (fun q => by cases q) inv
  rw [show (0 : Int).toNat = 0 from rfl, List.take_zero, List.drop_zero, List.drop_zero] at q2
  obtain rfl := EndsP.uniq r2 q2
  exact ⟨r, evn c r1, evn c q1, fun _ => r2⟩
end Go.Proofs.YtnhmlneebnkjcaaDoor.PL
namespace Go.Proofs.YtnhmlneebnkjcaaDoor.Pure
open Go Go.RowKit Go.Proofs.YtnhmlneebnkjcaaDoorW.PrintWords Go.Proofs.YtnhmlneebnkjcaaDoorW.PrintLast Go.Proofs.YtnhmlneebnkjcaaDoorW.PrintMore Go.Proofs.YtnhmlneebnkjcaaDoor.Pr Go.Proofs.YtnhmlneebnkjcaaDoor.X Go.Proofs.YtnhmlneebnkjcaaDoor.PL
theorem CaskReads : caskReadsPure := by
  intro s hs
  refine Ev.rounds ?_
  have haw : Ev (fun _ : Nat => spilelaw09_awake.f) true := Ev.now _
  refine evb haw (evp rfl ?_)
  by_cases c : (s.size : Int) > 2000
  · exact evp c (Ev.now _)
  obtain ⟨r, r1, r2, r3⟩ := parse_both s
  have hf := r3 (by omega)
  have sm : SmL r.1 := by
    cases hx : readT s.data.toList with
    | error n =>
      rw [hx] at hf
      rw [show r = ([], (n : Int), 3) from hf]
      exact ⟨by simp, fun x h => by cases h⟩
    | ok acc =>
      rw [hx] at hf
      obtain ⟨sm, e, _, he⟩ := hf
      rw [he]
      by_cases z : e = 0
      · rw [if_pos z]; exact sm
      · rw [if_neg z]; exact ⟨by simp, fun x h => by cases h⟩
  exact evn c (evb r1 (evb r2 (evb ((same_ev r.1 r.1 sm).1 rfl) (evp rfl (evp rfl (evr (by simp)))))))
end Go.Proofs.YtnhmlneebnkjcaaDoor.Pure
namespace Go.Proofs.YtnhmlneebnkjcaaDoor.X
open Go
variable {H : Type} {enc : TypeId × Value → H}
theorem wrap_shaped {a : Assume} {C : Checked} {os : Os} {f : FuncId} {fn : Func} {s : ChangeSpec} {conds : List PathCond} {apart fresh handsOn again : Bool} {X : World → Array Value → Prop}
    (hX : ∀ (w w' : World) (args : Array Value), w.heap = w'.heap → X w args → X w' args)
    (own : ownKnob C.prog.godebug = none) (started : os.Started) (noInit : C.prog.inits.idxOf? f = none) (hfn : C.prog.funcs[f]? = some fn)
    (witness : ∃ (w : World) (tape : Tape) (i : Input), w.os = os ∧ (w.forCall tape i).Shaped C.prog ∧ i.vars = [] ∧ Input.okWide C.prog (w.forCall tape i) .any w.heap.size f i ∧
      ((s.pre enc C.prog fn conds apart (w.forCall tape i).memory i.args ∧ X (w.forCall tape i).memory i.args) ∧ sizedMet enc C.prog fn (OpenSpec.ofChange s) apart (w.forCall tape i).memory i.args) ∧ a.holds C.prog (lone (Frame.enter C.prog f i.args .normal) [] (w.forCall tape i)))
    (walk : ∀ (W : World) (base : Nat) (args : Array Value) (ds gs : List (DataW H)) (before : List MemPlace),
      (∀ (j : Nat) t v, fn.params[j]? = some t → args[j]? = some v → Value.okWide C.prog W .any base t v) →
      DataW.Whole enc C.prog fn.params.toList s.vars apart W args.toList ds gs before → X W args → W.ShapedOpen C.prog →
      Calls C.prog f args W fun e W' => ∃ v, e = .returned v ∧ s.post enc C.prog fn apart fresh handsOn again W args v W') :
    ReturnsInHanded a C os f .any (fun w args => (s.pre enc C.prog fn conds apart w args ∧ X w args) ∧ sizedMet enc C.prog fn (OpenSpec.ofChange s) apart w args) (s.post enc C.prog fn apart fresh handsOn again) := by
  refine returnsInHanded_of_calls own started noInit witness ?_
  intro w tape i _ hsh _ hok hpre _
  obtain ⟨_, _, _, fn', hfn', _, _, _, _, hval⟩ := hok
  obtain rfl : fn' = fn := Option.some.inj (hfn'.symm.trans hfn)
  obtain ⟨⟨⟨ds, gs, before, hw, _⟩, hx⟩, _⟩ := hpre
  refine (walk (w.forCall tape i) w.heap.size i.args ds gs before hval (DataW.Whole.of_heap (w' := w.forCall tape i) (by rfl) hw) (hX _ _ _ (by rfl) hx) hsh).mono fun e W' ⟨v, he, hp⟩ => ?_
  subst he
  exact ChangeSpec.post_blind hp
end Go.Proofs.YtnhmlneebnkjcaaDoor.X
namespace Go.Proofs.YtnhmlneebnkjcaaDoor.caskReads
open Go Go.ChangeShapes Go.WideShapes Go.ChangeAt Go.RowKit
open Go.ChangeMaps (open_string shut_string)
open Go.Proofs.YtnhmlneebnkjcaaDoorW.PrintWords Go.Proofs.YtnhmlneebnkjcaaDoor.O Go.Proofs.YtnhmlneebnkjcaaDoor.Pr Go.Proofs.YtnhmlneebnkjcaaDoor.X
theorem own : ownKnob Tryd.prog.godebug = none := by kernel_rfl
theorem laidOut : laidOutB Tryd.prog = true := by kernel_rfl
abbrev laidL : List (String × DataW Unit) := [("math/bits.deBruijn32tab", Rows.laid_math_bits_deBruijn32tab), ("math/bits.deBruijn64tab", Rows.laid_math_bits_deBruijn64tab), ("internal/strconv.uint64pow10", Rows.laid_internal_strconv_uint64pow10), ("unicode/utf8.acceptRanges", Rows.laid_unicode_utf8_acceptRanges), ("unicode/utf8.first", Rows.laid_unicode_utf8_first)]
set_option maxRecDepth 100000 in
theorem lifted (os : Os) (started : os.Started) (H : Type) (enc : TypeId × Value → H) :
    ReturnsInHanded {} Tryd.checked os 5 .any (fun w args => (Rows.caskReadsSpec.pre enc Tryd.prog Tryd.f5 [] false w args ∧ laidMetH Tryd.prog laidL w) ∧ sizedMet enc Tryd.prog Tryd.f5 (OpenSpec.ofChange Rows.caskReadsSpec) false w args)
      (Rows.caskReadsSpec.post enc Tryd.prog Tryd.f5 false true false false) := by
  refine wrap_shaped (C := Tryd.checked) (X := (fun w _ => laidMetH Tryd.prog laidL w)) (fun _ _ _ hh h => h.of_heap hh) own started (by kernel_rfl) Tryd.func5
    (ChangeSpec.witness_shaped (enc := enc) (C := Tryd.checked) (os := os) (X := (fun w _ => laidMetH Tryd.prog laidL w)) false (World.laidAll Tryd.prog os laidL) #[.string ByteArray.empty] 8 (World.laidAll_os _ _ _) (World.shaped_of_ZipB (by kernel_rfl) (by kernel_rfl)) (by kernel_rfl) (by kernel_rfl) (by kernel_rfl) (by rw [MakeChecks.laidMetH_plain _ _ _ (by kernel_rfl)]; exact laidMet_laidAll _ (by kernel_rfl) (by kernel_rfl))) ?_
  intro W base args ds gs before hval0 hW hL hsh
  have hval : ∀ (j : Nat) t v, Tryd.f5.params[j]? = some t → args[j]? = some v → Value.okWide Tryd.prog W .any base t v := hval0
  have hW' := hW
  obtain ⟨p, q, hA0, hV, rfl, hfz, hnd⟩ := hW
  have hA : DataW.TrodAll enc Tryd.prog W 0 (fun _ => true) true Tryd.f5.params.toList args.toList ds p := hA0
  rw [Tryd.params5] at hA hval
  obtain ⟨v0, vs0, d0, ds0, p0, q0, hargs, rfl, rfl, h0, r0⟩ := trodAll_cons hA
  obtain ⟨rfl, rfl, rfl⟩ := trodAll_nil r0
  obtain rfl : args = #[v0] := by cases args; simp_all
  obtain ⟨rfl, rfl⟩ := trodVars_none hV
  obtain ⟨a0, rfl, rfl, rfl, y0⟩ := open_string Tryd.underlying9 (hval 0 9 v0 rfl rfl) h0
  clear hA0 hval0
  obtain ⟨k, hp⟩ := Pure.CaskReads a0 y0
  have hG : GI W := GI.of_laid laidL (by simp [laidL]) hL hsh
  refine (spilelaw09_CaskReads.calls k a0 true W  hG rfl hp).mono fun e W' ⟨he, bel⟩ => ?_
  subst he
  exact ⟨_, rfl, _, _, _, [], _, [], hW', trodAll_mk1 (shut_bool Tryd.underlying4 _), (trodAll_cons_mk (shut_string Tryd.underlying9 y0) trodAll_mk0), rfl, bel.frame _, fun h => by cases h⟩
theorem holds : Rows.CaskReadsSaid :=
  OpenClaim.holds_of_wide 5 Tryd.f5 rfl rfl rfl rfl rfl rfl rfl ⟨rfl, rfl, rfl, rfl, rfl⟩ rfl rfl rfl rfl rfl (by kernel_rfl) Tryd.func5 (by kernel_rfl)
    (of_decide_eq_true (by kernel_rfl)) (by unfold Func.isWrapper; first | (rw [if_pos (by decide +kernel)]; kernel_rfl) | (rw [if_neg (by decide +kernel)]; exact ⟨rfl, rfl⟩))
    (fun os started H enc _ => lifted os started H enc)
theorem card : Rows.CaskReadsCardSaid :=
  Claim7.holds_tied_plain_at .later [] [.data, .data, .data, .data, .pinned] true (true, "a11ba1a8ff04589e84bf96506875e99c97846a736c580a21adffadd5e088390c") false
    holds (fun _ h => by cases h) (by kernel_rfl) (fun _ h => by cases h) caskReads_row_tie rfl ⟨rfl, rfl⟩ (by kernel_rfl) rfl
    (fun f fn hf hfn => by
      obtain rfl : f = 5 := Option.some.inj ((show Tryd.prog.funcNamed "spile/spilelaw09.CaskReads" = some 5 by kernel_rfl).symm.trans hf) |>.symm
      obtain rfl : fn = Tryd.f5 := (Option.some.inj (Tryd.func5.symm.trans hfn)).symm
      exact ⟨by kernel_rfl, fun j t ht => by
        rw [Tryd.params5] at ht
        have hm : t ∈ [9] := by simpa using Array.mem_of_getElem? ht
        have hall : ([9].all fun u => !Tryd.prog.wantsStandIn u) = true := by kernel_rfl
        exact (show Tryd.prog.wantsStandIn t = false by simpa using List.all_eq_true.1 hall t hm)⟩)
    (by kernel_rfl)
end Go.Proofs.YtnhmlneebnkjcaaDoor.caskReads
namespace Go.Proofs.YtnhmlneebnkjcaaDoor
/-- The card, under a short name, for the claim. -/
theorem caskReads_holds : Rows.CaskReadsCardSaid := caskReads.card
#print axioms caskReads_holds
end Go.Proofs.YtnhmlneebnkjcaaDoor
