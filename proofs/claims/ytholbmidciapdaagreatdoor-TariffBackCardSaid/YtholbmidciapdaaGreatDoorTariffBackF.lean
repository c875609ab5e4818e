/-
The law TariffBack returns true for every input that can be read as data, and leaves its arguments as they were: the row, and the card that ties the listed variables to the program's text.
No condition of its own beyond those that the given row prints.
-/
import Derived.HandedShaped
import Derived.Handed
import Derived.Test.YtholbmidciapdaaGreatDoorCards
import Derived.Test.YtholbmidciapdaaGreatDoorTie
import Derived.ProofKit
import Derived.OpenShut
import Derived.ShutString
import Derived.ChangeOld
import Derived.SizedLaws
import Derived.LaidMore
import Derived.Lay
import Derived.MakeChecks
import Derived.SevenTiedAt
import Derived.LaidSub
import Derived.LaidOnce
import Derived.Stop.Joined
import Derived.Stop.LaidErr
import Derived.Test.YtholbmidciapdaaGreatDoorTariffBackE
set_option linter.unusedVariables false
set_option linter.unusedSimpArgs false
namespace Go.Proofs.YtholbmidciapdaaGreatDoor.PL
open Go Go.RowKit Go.Proofs.YtholbmidciapdaaGreatDoorW.PrintWords Go.Proofs.YtholbmidciapdaaGreatDoorW.PrintLast Go.Proofs.YtholbmidciapdaaGreatDoorW.PrintMore Go.Proofs.YtholbmidciapdaaGreatDoor.Pr Go.Proofs.YtholbmidciapdaaGreatDoor.TX Go.Proofs.YtholbmidciapdaaGreatDoor.X
theorem cut1_split (c : UInt8) : ∀ (p s : List UInt8), c ∉ p → cut1 c (p ++ s) = (p ++ (cut1 c s).1, (cut1 c s).2.1, (cut1 c s).2.2)
  | [], s, _ => rfl
  | b :: p, s, h => by
    have h1 : ¬ b = c := fun e => h (by simp [e])
    have ih := cut1_split c p s (fun e => h (by simp [e]))
    show cut1 c (b :: (p ++ s)) = _
    rw [cut1_cons, if_neg h1, ih]
    rfl
theorem Line_ev (s : List UInt8) (hs : s.length ≤ 100000) : Ev (fun k => spileref46_Line.f k (ba s)) (ba (cut1 10 s).1, ba (cut1 10 s).2.1, (cut1 10 s).2.2) := by
  have hsz : (ba s).size = s.length := rfl
  have key : ∀ i, 0 ≤ i → i ≤ (s.length : Int) → (10 : UInt8) ∉ s.take i.toNat → Ev (fun k => spileref46_Line.l0 k (ba s) i) (ba (cut1 10 s).1, ba (cut1 10 s).2.1, (cut1 10 s).2.2) := by
    refine count_up 0 (s.length : Int) (fun i => (10 : UInt8) ∉ s.take i.toNat → Ev (fun k => spileref46_Line.l0 k (ba s) i) (ba (cut1 10 s).1, ba (cut1 10 s).2.1, (cut1 10 s).2.2)) ?_ ?_
    · intro hno
      rw [show ((s.length : Int)).toNat = s.length from by omega, List.take_length] at hno
      have e := cut1_split 10 s [] hno
      rw [List.append_nil] at e
      rw [e]
      exact Ev.step (fun k => spileref46_Line.l0.eq_2 ..) (evn (by omega) (evr (by simp [cut1]; rfl)))
    · intro i h0 h1 ih hno
      obtain ⟨c, e1, e2, e3⟩ := byte_at (ba s) h0 (by rw [ba_size]; exact h1)
      rw [ba_list] at e1 e2
      have hw : wrap64 (i + 1) = i + 1 := w64 (by omega) (by omega)
      by_cases d : c = 10
      · subst d
        have es : s = s.take i.toNat ++ 10 :: s.drop (i + 1).toNat := by rw [← e1, List.take_append_drop]
        have ec : cut1 10 s = (s.take i.toNat, s.drop (i + 1).toNat, true) := by
          have := cut1_first 10 (s.take i.toNat) (s.drop (i + 1).toNat) hno
          rwa [← es] at this
        have x1 : (ba s).extract 0 i.toNat = ba (s.take i.toNat) := by rw [ba_ex, ba_list, List.drop_zero]
        have x2 : (ba s).extract (i + 1).toNat (ba s).size = ba (s.drop (i + 1).toNat) := by rw [ba_ex, ba_list, hsz, List.take_length]
        rw [ec]
        refine Ev.step (fun k => spileref46_Line.l0.eq_2 ..) (evp (by omega) (evp h0 ?_))
        rw [e3, hw, x1, x2]
        exact evp rfl (evp (by omega) (evp (by omega) (evp (by omega) (Ev.now _))))
      · refine Ev.step (fun k => spileref46_Line.l0.eq_2 ..) (evp (by omega) (evp h0 ?_))
        rw [e3, hw]
        refine evn (fun h => d ((toNat_eq c 10 (by decide)).1 h)) (ih ?_)
        rw [e2, List.mem_append, not_or]
        exact ⟨hno, by simp; exact fun e => d e.symm⟩
  exact key 0 (by omega) (by omega) (by simp)
theorem Words_ev (s : ByteArray) (hs : (s.size : Int) ≤ 4611686018427) : Ev (fun k => spileref46_Words.f k s) ((parts 32 s.data.toList).map ba) := by
  have key : ∀ i, 0 ≤ i → i ≤ (s.size : Int) → ∀ (out : List ByteArray) (fr : Int), 0 ≤ fr → fr ≤ i → (out.length : Int) ≤ i →
      Ev (fun k => spileref46_Words.l0 k s out fr i) (out ++ (wrd 32 ((s.data.toList.take i.toNat).drop fr.toNat) (s.data.toList.drop i.toNat)).map ba) := by
    refine count_up 0 (s.size : Int) _ ?_ ?_
    · intro out fr h0 h1 h2
      rw [drop_end]
      refine Ev.step (fun k => spileref46_Words.l0.eq_2 ..) (evp (by omega) (evp rfl (evp h0 (evp h1 (evp (by omega) (Ev.step (fun k => spileref46_Words.l0.eq_2 ..) (evn ?_ (evr ?_))))))))
      · rw [w64 (by omega) (by omega)]; omega
      · rw [ba_ex]; rfl
    · intro i h0 h1 ih out fr g0 g1 g2
      obtain ⟨b, e1, e2, e3⟩ := byte_at s h0 h1
      have hw : wrap64 (i + 1) = i + 1 := w64 (by omega) (by omega)
      have hlen : fr.toNat ≤ (s.data.toList.take i.toNat).length := by rw [List.length_take, size_data]; omega
      refine Ev.step (fun k => spileref46_Words.l0.eq_2 ..) (evp (by omega) (evn (by omega) (evp h0 (evp h1 ?_))))
      rw [e1, wrd_cons, hw, e3]
      by_cases c : b = 32
      · have q := ih (out ++ [s.extract fr.toNat i.toNat]) (i + 1) (by omega) (by omega) (by rw [List.length_append]; simp; omega)
        have z : (s.data.toList.take (i + 1).toNat).drop (i + 1).toNat = [] := List.drop_eq_nil_of_le (by rw [List.length_take]; omega)
        rw [z, List.append_assoc] at q
        rw [if_pos c]
        refine evp ((toNat_eq b 32 (by decide)).2 c) (evp g0 (evp g1 (evp (by omega) ?_)))
        rw [ba_ex] at q ⊢
        exact q
      · have q := ih out fr g0 (by omega) (by omega)
        rw [e2, List.drop_append_of_le_length hlen] at q
        rw [if_neg c]
        exact evn (fun h => c ((toNat_eq b 32 (by decide)).1 h)) q
  have := key 0 (by omega) (by omega) [] 0 (by omega) (by omega) (by simp)
  rw [show (0 : Int).toNat = 0 from rfl, List.take_zero, List.drop_zero, List.drop_zero, wrd_parts, List.nil_append] at this
  exact this
theorem word_eq {i : Nat} (h1 : 1 ≤ i) (h4 : i ≤ 4) : spileref46_word.f (i : Int) = some (ba (wrdL i)) := by
  have : i = 1 ∨ i = 2 ∨ i = 3 ∨ i = 4 := by omega
  rcases this with rfl | rfl | rfl | rfl <;> rfl
theorem l1_step {rest : ByteArray} {n R : Int} {a b : List UInt8} {f : Bool} {acc : List S26} {y : Int × List S26 × Int × Int} (i : Nat) (h1 : 1 ≤ i) (h4 : i ≤ 4)
    (h : Ev (fun k => spileref46_Parse.l1 k rest n ([a, b].map ba) f ((i : Int) + 1) (if b = wrdL i then (i : Int) else R) acc) y) : Ev (fun k => spileref46_Parse.l1 k rest n ([a, b].map ba) f (i : Int) R acc) y := by
  have hw : wrap64 ((i : Int) + 1) = (i : Int) + 1 := w64 (by omega) (by omega)
  have e1 : (rdOf ByteArray.empty ([a, b].map ba) 1).toList = b := ba_toList b
  refine Ev.step (fun k => spileref46_Parse.l1.eq_2 ..) (evp (by omega) (evp rfl (evp (by simp) (evb (evc (fun _ => rfl) (word_eq h1 h4)) ?_))))
  rw [e1, ba_toList, hw]
  by_cases c : b = wrdL i
  · rw [if_pos c] at h; exact evp c h
  · rw [if_neg c] at h; exact evn c h
theorem l1_other {rest : ByteArray} {n R : Int} {w : List ByteArray} {f : Bool} {acc : List S26} {y : Int × List S26 × Int × Int} (hw2 : ¬ (w.length : Int) = 2) (i : Nat) (h4 : i ≤ 4)
    (h : Ev (fun k => spileref46_Parse.l1 k rest n w f ((i : Int) + 1) R acc) y) : Ev (fun k => spileref46_Parse.l1 k rest n w f (i : Int) R acc) y := by
  have hw : wrap64 ((i : Int) + 1) = (i : Int) + 1 := w64 (by omega) (by omega)
  refine Ev.step (fun k => spileref46_Parse.l1.eq_2 ..) (evp (by omega) (evn hw2 ?_))
  rw [hw]
  exact h
theorem last_word (b : List UInt8) : (if b = wrdL 4 then ((4 : Nat) : Int) else if b = wrdL 3 then ((3 : Nat) : Int) else if b = wrdL 2 then ((2 : Nat) : Int) else if b = wrdL 1 then ((1 : Nat) : Int) else 0) = match wIdx b with | none => 0 | some R => R := by
  unfold wIdx
  by_cases c1 : b = wrdL 1
  · subst c1; rfl
  by_cases c2 : b = wrdL 2
  · subst c2; rfl
  by_cases c3 : b = wrdL 3
  · subst c3; rfl
  by_cases c4 : b = wrdL 4
  · subst c4; rfl
  rw [if_neg c4, if_neg c3, if_neg c2, if_neg c1, if_neg c1, if_neg c2, if_neg c3, if_neg c4]
theorem head_ref (rest : ByteArray) (P : List (List UInt8)) (f : Bool) (y : Int × List S26 × Int × Int)
    (h : Ev (fun k => match (if f = true then headW P else none) with
      | none => some (0, [], 0, 3)
      | some R => spileref46_Parse.l0 k rest 1 R []) y) : Ev (fun k => spileref46_Parse.l1 k rest 0 (P.map ba) f 1 0 []) y := by
  have w01 : wrap64 (0 + 1) = 1 := by unfold wrap64; omega
  by_cases h2 : P.length = 2
  case neg =>
    have hm : ¬ ((P.map ba).length : Int) = 2 := by rw [List.length_map]; omega
    rw [headW_len h2, ite_self] at h
    refine l1_other hm 1 (by omega) (l1_other hm 2 (by omega) (l1_other hm 3 (by omega) (l1_other hm 4 (by omega) (Ev.step (fun k => spileref46_Parse.l1.eq_2 ..) (evn (by omega) ?_)))))
    by_cases c : f = true
    · exact evp c (evn hm h)
    · exact evn c h
  obtain ⟨a, b, rfl⟩ := two h2
  have e0 : (rdOf ByteArray.empty ([a, b].map ba) 0).toList = a := ba_toList a
  refine l1_step 1 (by omega) (by omega) (l1_step 2 (by omega) (by omega) (l1_step 3 (by omega) (by omega) (l1_step 4 (by omega) (by omega) ?_)))
  rw [last_word b]
  refine Ev.step (fun k => spileref46_Parse.l1.eq_2 ..) (evn (by omega) ?_)
  rw [e0, w01]
  cases f with
  | false => exact evn (by simp) h
  | true =>
    rw [if_pos rfl] at h
    refine evp rfl (evp rfl (evp (by simp) ?_))
    simp only [headW] at h
    by_cases c : a = hdw
    · rw [if_pos c] at h
      refine evp c ?_
      cases hx : wIdx b with
      | none => rw [hx] at h; exact evn (by simp) h
      | some R =>
        rw [hx] at h
        have := wIdx_rng hx
        exact evp (show R > 0 by omega) h
    · rw [if_neg c] at h
      exact evn c h
theorem ref_step (s : List UInt8) (hs : s ≠ []) (hl : s.length ≤ 5000) (R : Int) (out : List S26) (ho : out.length ≤ 100000) (y : Int × List S26 × Int × Int)
    (h : Ev (fun k => match (if (cut1 10 s).2.2 = true then lineL (cut1 10 s).1 else none) with
      | none => some (0, [], (out.length : Int) + 1, 3)
      | some g => spileref46_Parse.l0 k (ba (cut1 10 s).2.1) ((out.length : Int) + 1 + 1) R (out ++ [g])) y) : Ev (fun k => spileref46_Parse.l0 k (ba s) ((out.length : Int) + 1) R out) y := by
  have hsz : (ba s).size = s.length := rfl
  have hpos : ((ba s).size : Int) > 0 := by
    cases s with
    | nil => exact absurd rfl hs
    | cons x r => rw [ba_size]; simp
  have hlen : (cut1 10 s).1.length ≤ 5000 := by
    cases hc : (cut1 10 s).2.2 with
    | true =>
      have := congrArg List.length (cut1_sum 10 s hc)
      simp at this
      omega
    | false => rw [(cut1_no 10 s hc).1]; exact hl
  have hw : wrap64 ((out.length : Int) + 1 + 1) = (out.length : Int) + 1 + 1 := w64 (by omega) (by omega)
  have hW := Words_ev (ba (cut1 10 s).1) (by rw [ba_size]; omega)
  rw [ba_list] at hW
  refine Ev.step (fun k => spileref46_Parse.l0.eq_2 ..) (evn (by omega) ?_)
  rw [decide_eq_true hpos]
  refine Ev.step (fun k => spileref46_Parse.j1.eq_2 ..) (evp rfl (evb (Line_ev s (by omega)) (evb hW (evn (by omega) ?_))))
  unfold lineL at h
  by_cases h6 : (parts 32 (cut1 10 s).1).length = 6
  case neg =>
    rw [lineW_len h6, ite_self] at h
    exact evn (by rw [List.length_map]; omega) h
  obtain ⟨w0, w1, w2, w3, w4, w5, hP⟩ := six h6
  rw [hP] at h ⊢
  have e0 : (rdOf ByteArray.empty ([w0, w1, w2, w3, w4, w5].map ba) 0).toList = w0 := ba_toList w0
  have e2 : (rdOf ByteArray.empty ([w0, w1, w2, w3, w4, w5].map ba) 2).toList = w2 := ba_toList w2
  have e4 : (rdOf ByteArray.empty ([w0, w1, w2, w3, w4, w5].map ba) 4).toList = w4 := ba_toList w4
  have n1 : Ev (fun k => spileref46_Read.f k (rdOf ByteArray.empty ([w0, w1, w2, w3, w4, w5].map ba) 1)) (numR 9 w1) := read_ev w1
  have n3 : Ev (fun k => spileref46_Read.f k (rdOf ByteArray.empty ([w0, w1, w2, w3, w4, w5].map ba) 3)) (numR 9 w3) := read_ev w3
  have n5 : Ev (fun k => spileref46_Read.f k (rdOf ByteArray.empty ([w0, w1, w2, w3, w4, w5].map ba) 5)) (numR 9 w5) := read_ev w5
  refine evp rfl (evp (by simp) (evb n1 (evp (by simp) (evb n3 (evp (by simp) (evb n5 ?_))))))
  rw [e0, e2, e4, hw]
  have hob : out.length < 5864062014805 := by omega
  simp only [lineW] at h
  by_cases cf : (cut1 10 s).2.2 = true
  case neg => rw [if_neg cf] at h; exact evn cf (evp hob h)
  rw [if_pos cf] at h
  refine evp cf ?_
  have bad : ((if w0 = cls ∧ w2 = frm ∧ w4 = atw then numW w1 w3 w5 else none) = none) → Ev (fun k => some (0, [], (out.length : Int) + 1, 3)) y := fun e => by rw [e] at h; exact h
  have nw : ∀ w, numP 9 w = none → numR 9 w = (0, false) := fun w hw => numR_none hw
  cases h1 : numP 9 w1 with
  | none =>
    rw [numR_none h1]
    exact evn (by simp) (evp hob (bad (by unfold numW; rw [h1]; exact ite_self _)))
  | some x =>
    rw [numR_some h1]
    cases h3 : numP 9 w3 with
    | none =>
      rw [numR_none h3]
      exact evp rfl (evn (by simp) (evp hob (bad (by unfold numW; rw [h1, h3]; exact ite_self _))))
    | some z =>
      rw [numR_some h3]
      cases h5 : numP 9 w5 with
      | none =>
        rw [numR_none h5]
        exact evp rfl (evp rfl (evn (by simp) (evp hob (bad (by unfold numW; rw [h1, h3, h5]; exact ite_self _)))))
      | some v =>
        rw [numR_some h5]
        refine evp rfl (evp rfl (evp rfl (evp (by simp) ?_)))
        by_cases c0 : w0 = cls
        case neg => exact evn c0 (evp hob (bad (if_neg (fun q => c0 q.1))))
        refine evp c0 (evp (by simp) ?_)
        by_cases c2 : w2 = frm
        case neg => exact evn c2 (evp hob (bad (if_neg (fun q => c2 q.2.1))))
        refine evp c2 (evp (by simp) (evp hob ?_))
        by_cases c4 : w4 = atw
        case neg => exact evn c4 (bad (if_neg (fun q => c4 q.2.2)))
        rw [if_pos ⟨c0, c2, c4⟩] at h
        unfold numW at h
        rw [h1, h3, h5] at h
        exact evp c4 h
theorem Fin_ev (R : Int) (o : List S26) : Ev (fun k => (spileref46_Right.f k R o).bind fun t465 => (if t465 = true then (some (R, o, (-1 : Int), (0 : Int))) else (some (0, ([] : List S26), (-1), 1)))) (valR R (o, none)) := by
  have hb := Right_B R o
  show Ev _ (if OKT R o then (R, o, -1, 0) else (0, [], -1, 1))
  by_cases ok : OKT R o
  · rw [if_pos ok]; exact evb (hb.1 ok) (evp rfl (Ev.now _))
  · rw [if_neg ok]; exact evb (hb.2 ok) (evn (by simp) (Ev.now _))
theorem ref_rows (R : Int) (e : Bool) : ∀ (ls : List (List UInt8)) (s : List UInt8) (out : List S26), lin [] s = (ls, e) → s.length ≤ 5000 → out.length + ls.length ≤ 100000 →
    Ev (fun k => spileref46_Parse.l0 k (ba s) ((out.length : Int) + 1) R out) (valR R (run lineL e ls out)) := by
  intro ls
  induction ls with
  | nil =>
    intro s out h1 h2 h3
    obtain ⟨rfl, rfl⟩ := lin_nil h1
    refine Ev.step (fun k => spileref46_Parse.l0.eq_2 ..) (evn (by omega) ?_)
    rw [decide_eq_false (show ¬ ((ba ([] : List UInt8)).size : Int) > 0 by rw [ba_size]; simp)]
    exact Ev.step (fun k => spileref46_Parse.j1.eq_2 ..) (evn (by simp) (Fin_ev R out))
  | cons l r ih =>
    intro s out h1 h2 h3
    obtain ⟨e1, e2, hne, hll⟩ := lin_next h1
    refine ref_step s hne h2 R out (by simp at h3; omega) _ ?_
    rw [e1, run_cons]
    cases hx : lineL l with
    | none =>
      rw [ite_self]
      exact evr (by simp [valR])
    | some x =>
      simp only []
      rcases e2 with ⟨c, hrest⟩ | ⟨c, _, rfl, rfl⟩
      · have hno : ¬ (r = [] ∧ e = false) := fun h => by
          have := (lin_nil (s := (cut1 10 s).2.1) (e := e) (by rw [hrest, h.1])).2
          rw [h.2] at this; cases this
        rw [if_neg hno, if_pos c]
        have hl2 := cut1_len 10 s c
        have q := ih (cut1 10 s).2.1 (out ++ [x]) hrest (by omega) (by rw [List.length_append]; simp at h3 ⊢; omega)
        rw [show (((out ++ [x]).length : Nat) : Int) = (out.length : Int) + 1 from by simp] at q
        exact q
      · rw [if_neg (show ¬ (cut1 10 s).2.2 = true by simp [c]), if_pos ⟨rfl, rfl⟩]
        exact evr (by simp [valR])
theorem ref_parse (s : ByteArray) (hs : s.size ≤ 4096) : Ev (fun k => spileref46_Parse.f k s) (parseV (lin [] s.data.toList).1 (lin [] s.data.toList).2) := by
  have hz := size_data s
  refine evn (by omega) ?_
  have hba := ba_data s
  generalize s.data.toList = t at *
  rw [← hba]
  have hlen1 : (cut1 10 t).1.length ≤ 5000 := by
    cases hc : (cut1 10 t).2.2 with
    | true =>
      have := congrArg List.length (cut1_sum 10 t hc)
      simp at this
      omega
    | false => rw [(cut1_no 10 t hc).1]; omega
  have hW := Words_ev (ba (cut1 10 t).1) (by rw [ba_size]; omega)
  rw [ba_list] at hW
  have pre : ∀ y, Ev (fun k => match (if (cut1 10 t).2.2 = true then headL (cut1 10 t).1 else none) with
      | none => some (0, [], 0, 3)
      | some R => spileref46_Parse.l0 k (ba (cut1 10 t).2.1) 1 R []) y → Ev (fun k => spileref46_Parse.l0 k (ba t) 0 0 []) y := fun y hy =>
    Ev.step (fun k => spileref46_Parse.l0.eq_2 ..) (evp rfl (Ev.step (fun k => spileref46_Parse.j1.eq_2 ..) (evp rfl (evb (Line_ev t (by omega)) (evb hW (evp rfl (head_ref _ _ _ y hy)))))))
  refine pre _ ?_
  cases hlin : lin [] t with
  | mk ls e =>
    cases ls with
    | nil =>
      obtain ⟨rfl, rfl⟩ := lin_nil hlin
      exact evr rfl
    | cons l r =>
      obtain ⟨e1, e2, hne, hll⟩ := lin_next hlin
      have hlen := lin_len t []
      rw [hlin] at hlen
      rw [e1]
      show Ev _ (match headL l with
        | none => (0, [], 0, 3)
        | some R => if r = [] ∧ e = false then (0, [], 0, 3) else valR R (run lineL e r []))
      cases hx : headL l with
      | none => rw [ite_self]; exact Ev.now _
      | some R =>
        simp only []
        rcases e2 with ⟨c, hrest⟩ | ⟨c, _, rfl, rfl⟩
        · have hno : ¬ (r = [] ∧ e = false) := fun h => by
            have := (lin_nil (s := (cut1 10 t).2.1) (e := e) (by rw [hrest, h.1])).2
            rw [h.2] at this; cases this
          rw [if_neg hno, if_pos c]
          have hl2 := cut1_len 10 t c
          exact ref_rows R e r (cut1 10 t).2.1 [] hrest (by omega) (by simp at hlen ⊢; omega)
        · rw [if_neg (show ¬ (cut1 10 t).2.2 = true by simp [c]), if_pos ⟨rfl, rfl⟩]
          exact Ev.now _
end Go.Proofs.YtholbmidciapdaaGreatDoor.PL
namespace Go.Proofs.YtholbmidciapdaaGreatDoor.PL
open Go Go.RowKit Go.Proofs.YtholbmidciapdaaGreatDoorW.PrintWords Go.Proofs.YtholbmidciapdaaGreatDoorW.PrintLast Go.Proofs.YtholbmidciapdaaGreatDoorW.PrintMore Go.Proofs.YtholbmidciapdaaGreatDoor.Pr Go.Proofs.YtholbmidciapdaaGreatDoor.TX Go.Proofs.YtholbmidciapdaaGreatDoor.X
def lineT (x : S26) : List UInt8 := cls ++ 32 :: (Lib.itoa x.f0 ++ 32 :: (frm ++ 32 :: (Lib.itoa x.f1 ++ 32 :: (atw ++ 32 :: Lib.itoa x.f2))))
def textT (R : Int) (l : List S26) : List UInt8 := hd R.toNat ++ 10 :: printL lineT l
theorem rng_itoa {x : S26} (h : Rng x) : (Lib.itoa x.f0).length ≤ 1 ∧ (Lib.itoa x.f1).length ≤ 6 ∧ (Lib.itoa x.f2).length ≤ 7 := by
  obtain ⟨⟨a, b⟩, ⟨c, d⟩, e, f⟩ := h
  exact ⟨itoa_le (n := x.f0) (m := 1) (by omega) (by omega) (by omega), itoa_le (n := x.f1) (m := 6) (by omega) (by omega) (by omega), itoa_le (n := x.f2) (m := 7) (by omega) (by omega) (by omega)⟩
theorem lineT_len {x : S26} (h : Rng x) : (lineT x).length ≤ 30 := by
  have := rng_itoa h
  have c1 : cls.length = 5 := rfl
  have c2 : frm.length = 4 := rfl
  have c3 : atw.length = 2 := rfl
  simp only [lineT, List.length_append, List.length_cons]
  omega
theorem lineT_no {x : S26} (h : Rng x) : (10 : UInt8) ∉ lineT x := by
  obtain ⟨⟨a, b⟩, ⟨c, d⟩, e, f⟩ := h
  have i0 := itoa_no (n := x.f0) (by omega) (c := 10) rfl
  have i1 := itoa_no (n := x.f1) (by omega) (c := 10) rfl
  have i2 := itoa_no (n := x.f2) (by omega) (c := 10) rfl
  simp only [lineT, List.mem_append, List.mem_cons, not_or]
  exact ⟨by decide, by decide, i0, by decide, by decide, by decide, i1, by decide, by decide, by decide, i2⟩
theorem line_back {x : S26} (h : Rng x) : lineL (lineT x) = some x := by
  obtain ⟨⟨a, b⟩, ⟨c, d⟩, e, f⟩ := h
  have i0 := itoa_no (n := x.f0) (by omega) (c := 32) rfl
  have i1 := itoa_no (n := x.f1) (by omega) (c := 32) rfl
  have i2 := itoa_no (n := x.f2) (by omega) (c := 32) rfl
  unfold lineL lineT
  rw [parts_app 32 cls _ (by decide), parts_app 32 _ _ i0, parts_app 32 frm _ (by decide), parts_app 32 _ _ i1, parts_app 32 atw _ (by decide), parts_no 32 _ i2]
  show (if cls = cls ∧ frm = frm ∧ atw = atw then numW (Lib.itoa x.f0) (Lib.itoa x.f1) (Lib.itoa x.f2) else none) = _
  rw [if_pos ⟨rfl, rfl, rfl⟩]
  unfold numW
  rw [itoa_numP (by omega) (by omega) (by omega), itoa_numP (by omega) (by omega) (by omega), itoa_numP (by omega) (by omega) (by omega)]
  show some (⟨((x.f0.toNat : Nat) : Int), ((x.f1.toNat : Nat) : Int), ((x.f2.toNat : Nat) : Int)⟩ : S26) = some x
  rw [show ((x.f0.toNat : Nat) : Int) = x.f0 from by omega, show ((x.f1.toNat : Nat) : Int) = x.f1 from by omega, show ((x.f2.toNat : Nat) : Int) = x.f2 from by omega]
theorem line_again : ∀ (l : List UInt8) (x : S26), lineL l = some x → lineT x = l := by
  intro l x h
  unfold lineL at h
  by_cases h6 : (parts 32 l).length = 6
  case neg => rw [lineW_len h6] at h; cases h
  obtain ⟨w0, w1, w2, w3, w4, w5, hP⟩ := six h6
  have hg := glue_parts 32 l
  rw [hP] at h hg
  simp only [lineW] at h
  by_cases c : w0 = cls ∧ w2 = frm ∧ w4 = atw
  case neg => rw [if_neg c] at h; cases h
  rw [if_pos c] at h
  unfold numW at h
  cases h1 : numP 9 w1 with
  | none => rw [h1] at h; cases h
  | some a =>
    cases h3 : numP 9 w3 with
    | none => rw [h1, h3] at h; cases h
    | some b =>
      cases h5 : numP 9 w5 with
      | none => rw [h1, h3, h5] at h; cases h
      | some d =>
        rw [h1, h3, h5] at h
        obtain rfl := Option.some.inj h
        rw [← hg]
        unfold lineT
        show cls ++ 32 :: (Lib.itoa (a : Int) ++ 32 :: (frm ++ 32 :: (Lib.itoa (b : Int) ++ 32 :: (atw ++ 32 :: Lib.itoa (d : Int))))) = _
        rw [numP_itoa h1, numP_itoa h3, numP_itoa h5, c.1, c.2.1, c.2.2]
        rfl
theorem part_eq {x : S26} (h : Rng x) : tariff_Print.part x = some (ba (lineT x ++ [10])) := by
  have hl := rng_itoa h
  obtain ⟨⟨a, b⟩, ⟨c, d⟩, e, f⟩ := h
  have e1 : (⟨#[99, 108, 97, 115, 115, 32]⟩ : ByteArray) = ba (cls ++ [32]) := rfl
  have e2 : (⟨#[32, 102, 114, 111, 109, 32]⟩ : ByteArray) = ba (32 :: (frm ++ [32])) := rfl
  have e3 : (⟨#[32, 97, 116, 32]⟩ : ByteArray) = ba (32 :: (atw ++ [32])) := rfl
  have e4 : (⟨#[10]⟩ : ByteArray) = ba [10] := rfl
  unfold tariff_Print.part
  rw [itoa_f (by omega) (by omega), itoa_f (by omega) (by omega), itoa_f (by omega) (by omega), e1, e2, e3, e4]
  simp only [Option.bind_some]
  rw [if_pos (by simp only [ba_size]; omega)]
  simp only [ba_app]
  simp [lineT]
theorem app_eq (acc s : List UInt8) (h : acc.length + s.length ≤ 140737488355328) : tariff_Print.app acc (ba s) = some (acc ++ s) := by
  unfold tariff_Print.app
  rw [ba_size, if_pos h]
  rfl
theorem print_loop (l : List S26) (hn : (l.length : Int) ≤ 65) (h : ∀ x, x ∈ l → Rng x) : ∀ i, 0 ≤ i → i ≤ (l.length : Int) → ∀ acc : List UInt8, (acc.length : Int) ≤ 50 + 31 * i →
    Ev (fun k => tariff_Print.l0 k l acc i) (ba (acc ++ printL lineT (l.drop i.toNat)), 0) := by
  refine count_up 0 (l.length : Int) _ ?_ ?_
  · intro acc ha
    rw [List.drop_eq_nil_of_le (by omega)]
    exact Ev.step (fun k => tariff_Print.l0.eq_2 ..) (evn (by omega) (evr (by simp [printL, ba])))
  · intro i h0 h1 ih acc ha
    have hx := h _ (rd26_mem h0 h1)
    have hl := lineT_len hx
    have q := ih (acc ++ (lineT (rd_T26 l i) ++ [10])) (by simp only [List.length_append, List.length_cons, List.length_nil]; omega)
    rw [drop26 h0 h1]
    refine Ev.step (fun k => tariff_Print.l0.eq_2 ..) (evp h1 (evp h0 ?_))
    rw [part_eq hx, w64_succ h0 h1 (by omega)]
    simp only [Option.bind_some]
    rw [app_eq _ _ (by simp only [List.length_append, List.length_cons, List.length_nil]; omega)]
    simp only [Option.bind_some]
    simp only [printL, List.append_assoc, List.cons_append, List.nil_append] at q ⊢
    exact q
theorem digit_ev {d : Int} (h0 : 0 ≤ d) (h1 : d < 10) : strOfNums (([(wrap64 (48 + d)) % 256] : List Int)) = ba [UInt8.ofNat (48 + d.toNat)] := by
  rw [w64 (by omega) (by omega)]
  show (⟨#[UInt8.ofNat ((48 + d) % 256).toNat]⟩ : ByteArray) = ⟨#[UInt8.ofNat (48 + d.toNat)]⟩
  rw [show ((48 + d) % 256).toNat = 48 + d.toNat from by omega]
theorem Number_ev : ∀ (m : Nat) (n : Int), 0 ≤ n → n ≤ 9223372036854775807 → n.toNat ≤ m → Ev (fun k => spileref46_Number.f k n) (ba (Lib.itoa n)) := by
  intro m
  induction m with
  | zero =>
    intro n h0 h1 hm
    obtain rfl : n = 0 := by omega
    refine Ev.step (fun k => spileref46_Number.f.eq_2 ..) (evp (by omega) (evr ?_))
    rw [digit_ev (d := 0) (by omega) (by omega), itoa_dig (by omega), digits_small (by decide)]
  | succ m ih =>
    intro n h0 h1 hm
    by_cases c : n < 10
    · refine Ev.step (fun k => spileref46_Number.f.eq_2 ..) (evp c (evr ?_))
      rw [digit_ev h0 c, itoa_dig h0, digits_small (by omega)]
    · have e1 : Int.tdiv n 10 = n / 10 := Int.tdiv_eq_ediv_of_nonneg h0
      have e2 : Int.tmod n 10 = n % 10 := Int.tmod_eq_emod_of_nonneg h0
      have q := ih (n / 10) (by omega) (by omega) (by omega)
      have g0 : 0 ≤ n % 10 := by omega
      have g1 : n % 10 < 10 := by omega
      refine Ev.step (fun k => spileref46_Number.f.eq_2 ..) (evn c ?_)
      rw [e1, e2, w64 (x := n / 10) (by omega) (by omega)]
      have hl : (Lib.itoa (n / 10)).length ≤ 19 := by
        rw [itoa_dig (by omega)]
        exact digits_length_le (by omega) (by decide)
      refine evb q (evb (Ev.now _) ?_)
      rw [digit_ev g0 g1, ba_app]
      refine evp (by rw [ba_size, ba_size]; simp; omega) (evr ?_)
      rw [itoa_dig (n := n / 10) (by omega), itoa_dig (n := n) h0, digits_big (u := n.toNat) (by omega)]
      rw [show (n / 10).toNat = n.toNat / 10 from by omega, show (n % 10).toNat = n.toNat % 10 from by omega]
theorem num_ev {n : Int} (h0 : 0 ≤ n) (h1 : n ≤ 9223372036854775807) : Ev (fun k => spileref46_Number.f k n) (ba (Lib.itoa n)) := Number_ev n.toNat n h0 h1 (by omega)
theorem ref_print_loop (R : Int) (l : List S26) (hn : (l.length : Int) ≤ 65) (h : ∀ x, x ∈ l → Rng x) : ∀ i, 0 ≤ i → i ≤ (l.length : Int) → ∀ acc : List UInt8, (acc.length : Int) ≤ 50 + 31 * i →
    Ev (fun k => spileref46_Print.l0 k (ba acc) i R l) (ba (acc ++ printL lineT (l.drop i.toNat)), 0) := by
  refine count_up 0 (l.length : Int) _ ?_ ?_
  · intro acc ha
    rw [List.drop_eq_nil_of_le (by omega)]
    exact Ev.step (fun k => spileref46_Print.l0.eq_2 ..) (evn (by omega) (evr (by simp [printL])))
  · intro i h0 h1 ih acc ha
    have hx := h _ (rd26_mem h0 h1)
    have hl := lineT_len hx
    have hd3 := rng_itoa hx
    obtain ⟨⟨a, b⟩, ⟨c, d⟩, e, f⟩ := hx
    have q := ih (acc ++ (lineT (rd_T26 l i) ++ [10])) (by simp only [List.length_append, List.length_cons, List.length_nil]; omega)
    rw [drop26 h0 h1]
    have e1 : (⟨#[99, 108, 97, 115, 115, 32]⟩ : ByteArray) = ba (cls ++ [32]) := rfl
    have e2 : (⟨#[32, 102, 114, 111, 109, 32]⟩ : ByteArray) = ba (32 :: (frm ++ [32])) := rfl
    have e3 : (⟨#[32, 97, 116, 32]⟩ : ByteArray) = ba (32 :: (atw ++ [32])) := rfl
    have e4 : (⟨#[10]⟩ : ByteArray) = ba [10] := rfl
    have c1 : cls.length = 5 := rfl
    have c2 : frm.length = 4 := rfl
    have c3 : atw.length = 2 := rfl
    refine Ev.step (fun k => spileref46_Print.l0.eq_2 ..) (evp h1 (evp h0 (evb (num_ev (by omega) (by omega)) ?_)))
    rw [e1, e2, e3, e4, w64_succ h0 h1 (by omega)]
    simp only [ba_app]
    refine evp (by rw [ba_size]; omega) (evp (by simp only [ba_size, List.length_append, List.length_cons, List.length_nil]; omega) (evb (num_ev (by omega) (by omega)) ?_))
    simp only [ba_app]
    refine evp (by simp only [ba_size, List.length_append, List.length_cons, List.length_nil]; omega) (evp (by simp only [ba_size, List.length_append, List.length_cons, List.length_nil]; omega) (evb (num_ev (by omega) (by omega)) ?_))
    simp only [ba_app]
    refine evp (by simp only [ba_size, List.length_append, List.length_cons, List.length_nil]; omega) (evp (by simp only [ba_size, List.length_append, List.length_cons, List.length_nil]; omega) (evp (by simp only [ba_size, List.length_append, List.length_cons, List.length_nil]; omega) ?_))
    simp only [printL, lineT, List.append_assoc, List.cons_append, List.nil_append] at q ⊢
    exact q
theorem hd_len (n : Nat) : (hd n).length ≤ 18 := by
  have e : (hd n).length = 9 + (wrdL n).length := by simp [hd, hdw]; omega
  rw [e]
  unfold wrdL
  split
  · simp
  · split
    · simp
    · split
      · simp
      · simp
theorem print_both (R : Int) (l : List S26) (hl : (l.length : Int) ≤ 65) : ∃ r, Ev (fun k => tariff_Print.f k R l) r ∧ Ev (fun k => spileref46_Print.f k R l) r ∧ (OKT R l → r = (ba (textT R l), 0)) ∧ (¬ OKT R l → r = (ba [], 1)) := by
  have hb := right_B R l
  have hB := Right_B R l
  by_cases ok : OKT R l
  case neg => exact ⟨(ba [], 1), evb (hb.2 ok) (evn (by simp) (Ev.now _)), evb (hB.2 ok) (evn (by simp) (Ev.now _)), fun h => absurd h ok, fun _ => rfl⟩
  have hlen := hd_len R.toNat
  have p1 := print_loop l hl ok.2.2.1 0 (by omega) (by omega) (hd R.toNat ++ [10]) (by simp; omega)
  have p2 := ref_print_loop R l hl ok.2.2.1 0 (by omega) (by omega) (hd R.toNat ++ [10]) (by simp; omega)
  rw [show (0 : Int).toNat = 0 from rfl, List.drop_zero] at p1 p2
  have et : (hd R.toNat ++ [10]) ++ printL lineT l = textT R l := by simp [textT]
  rw [et] at p1 p2
  have hR : R.toNat = 1 ∨ R.toNat = 2 ∨ R.toNat = 3 ∨ R.toNat = 4 := by have := ok.1; omega
  have h1 : tariff_Print.head R = some (ba (hd R.toNat ++ [10])) := by
    unfold tariff_Print.head
    rw [if_pos (by have := ok.1; omega)]
    rcases hR with h | h | h | h <;> rw [h] <;> rfl
  have h2 : spileref46_word.f R = some (ba (wrdL R.toNat)) := by
    have := word_eq (i := R.toNat) (by omega) (by omega)
    rwa [show ((R.toNat : Nat) : Int) = R from by have := ok.1; omega] at this
  have e9 : (⟨#[114, 111, 117, 110, 100, 105, 110, 103, 32]⟩ : ByteArray) = ba (hdw ++ [32]) := rfl
  have e10 : (⟨#[10]⟩ : ByteArray) = ba [10] := rfl
  have eh : (hdw ++ [32]) ++ wrdL R.toNat ++ [10] = hd R.toNat ++ [10] := by simp [hd]
  have ew : (wrdL R.toNat).length ≤ 9 := by
    have : (hd R.toNat).length = 9 + (wrdL R.toNat).length := by simp [hd, hdw]; omega
    omega
  have h8 : hdw.length = 8 := rfl
  refine ⟨_, evb (hb.1 ok) (evp rfl (evb (evc (fun _ => rfl) h1) p1)), evb (hB.1 ok) (evp rfl (evb (evc (fun _ => rfl) h2) ?_)), fun _ => rfl, fun h => absurd ok h⟩
  rw [e9, e10]
  simp only [ba_app]
  rw [eh]
  exact evp (by rw [ba_size]; omega) (evp (by simp only [ba_size, List.length_append, List.length_cons, List.length_nil]; omega) p2)
theorem parse_both (s : ByteArray) (hs : s.size ≤ 4096) : ∃ r, Ev (fun k => tariff_Parse.f k s) r ∧ Ev (fun k => spileref46_Parse.f k s) r ∧ r = parseV (lin [] s.data.toList).1 (lin [] s.data.toList).2 := ⟨_, tariff_parse s hs, ref_parse s hs, rfl⟩
theorem wIdx_word {n : Nat} (h1 : 1 ≤ n) (h4 : n ≤ 4) : wIdx (wrdL n) = some (n : Int) := by
  have : n = 1 ∨ n = 2 ∨ n = 3 ∨ n = 4 := by omega
  rcases this with rfl | rfl | rfl | rfl <;> rfl
theorem hd_no {n : Nat} (h1 : 1 ≤ n) (h4 : n ≤ 4) : (10 : UInt8) ∉ hd n := by
  have : n = 1 ∨ n = 2 ∨ n = 3 ∨ n = 4 := by omega
  rcases this with rfl | rfl | rfl | rfl <;> decide
theorem parse_print {R : Int} {l : List S26} (ok : OKT R l) : parseV (lin [] (textT R l)).1 (lin [] (textT R l)).2 = (R, l, -1, 0) := by
  have h1 : 1 ≤ R.toNat := by have := ok.1; omega
  have h4 : R.toNat ≤ 4 := by have := ok.1; omega
  have hno := hd_no h1 h4
  have hl : lin [] (textT R l) = (hd R.toNat :: l.map lineT, true) := by
    unfold textT
    rw [lin_cut, cut1_first 10 _ _ hno]
    simp only [if_true, List.nil_append]
    rw [lin_print l (fun x hx => lineT_no (ok.2.2.1 x hx))]
  rw [hl]
  have hh : headL (hd R.toNat) = some R := by
    unfold hd
    rw [headL_pre, wIdx_word h1 h4, show ((R.toNat : Nat) : Int) = R from by have := ok.1; omega]
  show (match headL (hd R.toNat) with
    | none => (0, [], 0, 3)
    | some R => if l.map lineT = [] ∧ true = false then (0, [], 0, 3) else valR R (run lineL true (l.map lineT) [])) = _
  rw [hh]
  simp only []
  rw [if_neg (by simp), run_print l [] (fun x hx => line_back (ok.2.2.1 x hx)), List.nil_append]
  exact if_pos ok
theorem print_parse {s : List UInt8} (h : (parseV (lin [] s).1 (lin [] s).2).2.2.2 = 0) : OKT (parseV (lin [] s).1 (lin [] s).2).1 (parseV (lin [] s).1 (lin [] s).2).2.1 ∧ (parseV (lin [] s).1 (lin [] s).2).2.2.1 = -1 ∧ textT (parseV (lin [] s).1 (lin [] s).2).1 (parseV (lin [] s).1 (lin [] s).2).2.1 = s := by
  cases hlin : lin [] s with
  | mk ls e =>
    rw [hlin] at h
    cases ls with
    | nil => exact absurd h (by simp [parseV])
    | cons l r =>
      obtain ⟨e1, e2, hne, _⟩ := lin_next hlin
      simp only [parseV] at h ⊢
      cases hx : headL l with
      | none => rw [hx] at h; simp at h
      | some R =>
        rw [hx] at h
        simp only [] at h ⊢
        by_cases c : r = [] ∧ e = false
        · rw [if_pos c] at h; simp at h
        rw [if_neg c] at h ⊢
        cases hr : run lineL e r [] with
        | mk o st =>
          rw [hr] at h
          cases st with
          | some i => simp [valR] at h
          | none =>
            simp only [valR] at h ⊢
            by_cases ok : OKT R o
            case neg => rw [if_neg ok] at h; simp at h
            rw [if_pos ok]
            refine ⟨ok, rfl, ?_⟩
            rcases e2 with ⟨cf, hrest⟩ | ⟨_, _, h1, h2⟩
            · obtain ⟨xs, g1, g2⟩ := run_again line_again e r _ [] o hrest hr
              rw [List.nil_append] at g1
              have hh := (headL_some hx).2.2
              show hd R.toNat ++ 10 :: printL lineT o = s
              rw [g1, g2, ← hh, ← e1]
              exact (cut1_sum 10 s cf).symm
            · exact absurd ⟨h1, h2⟩ c
theorem parse_bad {ls : List (List UInt8)} {e : Bool} (h : ¬ (parseV ls e).2.2.2 = 0) : ∃ c d : Int, parseV ls e = (0, [], c, d) ∧ ¬ d = 0 ∧ (decide (c ≥ 0) = (d == 3)) := by
  cases ls with
  | nil => exact ⟨0, 3, rfl, by omega, rfl⟩
  | cons l r =>
    simp only [parseV] at h ⊢
    cases hx : headL l with
    | none => exact ⟨0, 3, rfl, by omega, rfl⟩
    | some R =>
      rw [hx] at h
      simp only [] at h ⊢
      by_cases c : r = [] ∧ e = false
      · rw [if_pos c]; exact ⟨0, 3, rfl, by omega, rfl⟩
      · rw [if_neg c] at h ⊢
        cases hr : run lineL e r [] with
        | mk o st =>
          rw [hr] at h
          cases st with
          | some i => exact ⟨(i : Int) + 1, 3, rfl, by omega, by rw [decide_eq_true (by omega)]; rfl⟩
          | none =>
            simp only [valR] at h ⊢
            by_cases ok : OKT R o
            · rw [if_pos ok] at h; exact absurd rfl h
            · rw [if_neg ok]; exact ⟨-1, 1, rfl, by omega, rfl⟩
end Go.Proofs.YtholbmidciapdaaGreatDoor.PL
namespace Go.Proofs.YtholbmidciapdaaGreatDoor.Pure
open Go Go.RowKit Go.Proofs.YtholbmidciapdaaGreatDoorW.PrintWords Go.Proofs.YtholbmidciapdaaGreatDoorW.PrintLast Go.Proofs.YtholbmidciapdaaGreatDoorW.PrintMore Go.Proofs.YtholbmidciapdaaGreatDoor.Pr Go.Proofs.YtholbmidciapdaaGreatDoor.Opn Go.Proofs.YtholbmidciapdaaGreatDoor.X Go.Proofs.YtholbmidciapdaaGreatDoor.PL Go.Proofs.YtholbmidciapdaaGreatDoor.TX
theorem textT_len {R : Int} {l : List S26} (ok : OKT R l) : (textT R l).length ≤ 4096 := by
  have h1 := printL_len (lineT := lineT) (m := 30) l (fun x hx => lineT_len (ok.2.2.1 x hx))
  have h2 := hd_len R.toNat
  have h3 := ok.2.1
  unfold textT
  rw [List.length_append, List.length_cons]
  omega
theorem back_two (s : ByteArray) (hs : (s.size : Int) ≤ 600) : Ev (fun k => spilelaw46_TariffBack.j1 k s) true := by
  have h3 := size_data s
  obtain ⟨r, r1, _, r3⟩ := parse_both s (by omega)
  refine Ev.step (fun k => spilelaw46_TariffBack.j1.eq_2 ..) (evb r1 ?_)
  by_cases h : r.2.2.2 = 0
  · have hh := print_parse (s := s.data.toList) (by rw [← r3]; exact h)
    rw [← r3] at hh
    obtain ⟨ok, h1, h2⟩ := hh
    obtain ⟨p, p1, _, p3, _⟩ := print_both r.1 r.2.1 (by have := ok.2.1; omega)
    rw [p3 ok, h2, ba_data] at p1
    exact evp h (evb p1 (evp rfl (evp h1 (evr (by simp)))))
  · have hb := parse_bad (ls := (lin [] s.data.toList).1) (e := (lin [] s.data.toList).2) (by rw [← r3]; exact h)
    rw [← r3] at hb
    obtain ⟨c, d, e, e0, e1⟩ := hb
    rw [e]
    exact evn e0 (evp (by simp) (evr (by rw [e1]; simp)))
theorem TariffBack : tariffBackPure := by
  intro R l s hR hl hs
  refine Ev.rounds ?_
  obtain ⟨q, hq, hq2⟩ := few_eq R l
  have haw : Ev (fun _ : Nat => spilelaw46_awake.f) true := Ev.now _
  have yes : ∀ t, t = true → Ev (fun k => spilelaw46_TariffBack.j0 k s t R l) true := fun t ht => Ev.step (fun k => spilelaw46_TariffBack.j0.eq_2 ..) (evp ht (evb haw (Ev.now _)))
  refine evb haw (evp rfl (evb (evc (fun _ => rfl) hq) ?_))
  cases q with
  | false => exact evn (by simp) (yes _ rfl)
  | true =>
    have hn := hq2 rfl
    have hcp : Ev (fun _ : Nat => spilelaw46_cp.f R l) (R, l) := evc (fun _ => rfl) (cp_eq hn)
    refine evp rfl ?_
    by_cases c : (s.size : Int) > 600
    · exact yes _ (decide_eq_true c)
    rw [decide_eq_false c]
    have back := back_two s (by omega)
    obtain ⟨p, p1, _, p3, p4⟩ := print_both R l hn
    refine Ev.step (fun k => spilelaw46_TariffBack.j0.eq_2 ..) (evn (by simp) (evb hcp (evb p1 ?_)))
    by_cases ok : OKT R l
    · rw [p3 ok]
      have hlen := textT_len ok
      obtain ⟨r, r1, _, r3⟩ := parse_both (ba (textT R l)) (by rw [ba_size]; omega)
      rw [ba_list, parse_print ok] at r3
      rw [r3] at r1
      exact evp rfl (evb r1 (evp rfl (evp rfl (evb (same_self R l (by omega)) (evp rfl back)))))
    · rw [p4 ok]
      exact evn (by simp) (evp (by rw [ba_toList]) back)
end Go.Proofs.YtholbmidciapdaaGreatDoor.Pure
namespace Go.Proofs.YtholbmidciapdaaGreatDoor.X
open Go
variable {H : Type} {enc : TypeId × Value → H}
theorem wrap_shaped {a : Assume} {C : Checked} {os : Os} {f : FuncId} {fn : Func} {s : ChangeSpec} {conds : List PathCond} {apart fresh handsOn again : Bool} {X : World → Array Value → Prop}
    (hX : ∀ (w w' : World) (args : Array Value), w.heap = w'.heap → X w args → X w' args)
    (own : ownKnob C.prog.godebug = none) (started : os.Started) (noInit : C.prog.inits.idxOf? f = none) (hfn : C.prog.funcs[f]? = some fn)
    (witness : ∃ (w : World) (tape : Tape) (i : Input), w.os = os ∧ (w.forCall tape i).Shaped C.prog ∧ i.vars = [] ∧ Input.okWide C.prog (w.forCall tape i) .any w.heap.size f i ∧
      ((s.pre enc C.prog fn conds apart (w.forCall tape i).memory i.args ∧ X (w.forCall tape i).memory i.args) ∧ sizedMet enc C.prog fn (OpenSpec.ofChange s) apart (w.forCall tape i).memory i.args) ∧ a.holds C.prog (lone (Frame.enter C.prog f i.args .normal) [] (w.forCall tape i)))
    (walk : ∀ (W : World) (base : Nat) (args : Array Value) (ds gs : List (DataW H)) (before : List MemPlace),
      (∀ (j : Nat) t v, fn.params[j]? = some t → args[j]? = some v → Value.okWide C.prog W .any base t v) →
      DataW.Whole enc C.prog fn.params.toList s.vars apart W args.toList ds gs before → X W args → W.ShapedOpen C.prog →
      Calls C.prog f args W fun e W' => ∃ v, e = .returned v ∧ s.post enc C.prog fn apart fresh handsOn again W args v W') :
    ReturnsInHanded a C os f .any (fun w args => (s.pre enc C.prog fn conds apart w args ∧ X w args) ∧ sizedMet enc C.prog fn (OpenSpec.ofChange s) apart w args) (s.post enc C.prog fn apart fresh handsOn again) := by
  refine returnsInHanded_of_calls own started noInit witness ?_
  intro w tape i _ hsh _ hok hpre _
  obtain ⟨_, _, _, fn', hfn', _, _, _, _, hval⟩ := hok
  obtain rfl : fn' = fn := Option.some.inj (hfn'.symm.trans hfn)
  obtain ⟨⟨⟨ds, gs, before, hw, _⟩, hx⟩, _⟩ := hpre
  refine (walk (w.forCall tape i) w.heap.size i.args ds gs before hval (DataW.Whole.of_heap (w' := w.forCall tape i) (by rfl) hw) (hX _ _ _ (by rfl) hx) hsh).mono fun e W' ⟨v, he, hp⟩ => ?_
  subst he
  exact ChangeSpec.post_blind hp
end Go.Proofs.YtholbmidciapdaaGreatDoor.X
namespace Go.Proofs.YtholbmidciapdaaGreatDoor.tariffBack
open Go Go.ChangeShapes Go.WideShapes Go.ChangeAt Go.RowKit
open Go.ChangeMaps (open_string shut_string)
open Go.Proofs.YtholbmidciapdaaGreatDoorW.PrintWords Go.Proofs.YtholbmidciapdaaGreatDoor.O Go.Proofs.YtholbmidciapdaaGreatDoor.Opn Go.Proofs.YtholbmidciapdaaGreatDoor.Pr Go.Proofs.YtholbmidciapdaaGreatDoor.X
theorem own : ownKnob Tryz.prog.godebug = none := by kernel_rfl
theorem laidOut : laidOutB Tryz.prog = true := by kernel_rfl
abbrev laidL : List (String × DataW Unit) := [("math/bits.deBruijn32tab", Rows.laid_math_bits_deBruijn32tab), ("math/bits.deBruijn64tab", Rows.laid_math_bits_deBruijn64tab), ("internal/strconv.uint64pow10", Rows.laid_internal_strconv_uint64pow10), ("unicode/utf8.acceptRanges", Rows.laid_unicode_utf8_acceptRanges), ("strconv.ErrRange", Rows.laid_strconv_ErrRange), ("strconv.ErrSyntax", Rows.laid_strconv_ErrSyntax), ("spile/tariff.words", Rows.laid_spile_tariff_words), ("unicode/utf8.first", Rows.laid_unicode_utf8_first)]
set_option maxRecDepth 100000 in
theorem lifted (os : Os) (started : os.Started) (H : Type) (enc : TypeId × Value → H) :
    ReturnsInHanded {} Tryz.checked os 9 .any (fun w args => (Rows.tariffBackSpec.pre enc Tryz.prog Tryz.f9 [] false w args ∧ laidMetH Tryz.prog laidL w) ∧ sizedMet enc Tryz.prog Tryz.f9 (OpenSpec.ofChange Rows.tariffBackSpec) false w args)
      (Rows.tariffBackSpec.post enc Tryz.prog Tryz.f9 false true false false) := by
  refine wrap_shaped (C := Tryz.checked) (X := (fun w _ => laidMetH Tryz.prog laidL w)) (fun _ _ _ hh h => h.of_heap hh) own started (by kernel_rfl) Tryz.func9
    (ChangeSpec.witness_shaped (enc := enc) (C := Tryz.checked) (os := os) (X := (fun w _ => laidMetH Tryz.prog laidL w)) false (World.laidAll Tryz.prog os laidL) #[.agg #[.int .i64 0, .slice none 0 0], .string ByteArray.empty] 8 (World.laidAll_os _ _ _) (World.shaped_of_ZipB (by kernel_rfl) (by kernel_rfl)) (by kernel_rfl) (by kernel_rfl) (by kernel_rfl) (by rw [MakeChecks.laidMetH_plain _ _ _ (by kernel_rfl)]; exact laidMet_laidAll _ (by kernel_rfl) (by kernel_rfl))) ?_
  intro W base args ds gs before hval0 hW hL hsh
  have hval : ∀ (j : Nat) t v, Tryz.f9.params[j]? = some t → args[j]? = some v → Value.okWide Tryz.prog W .any base t v := hval0
  have hW' := hW
  obtain ⟨p, q, hA0, hV, rfl, hfz, hnd⟩ := hW
  have hA : DataW.TrodAll enc Tryz.prog W 0 (fun _ => true) true Tryz.f9.params.toList args.toList ds p := hA0
  rw [Tryz.params9] at hA hval
  obtain ⟨v0, vs0, d0, ds0, p0, q0, hargs, rfl, rfl, h0, r0⟩ := trodAll_cons hA
  obtain ⟨v1, vs1, d1, ds1, p1, q1, rfl, rfl, rfl, h1, r1⟩ := trodAll_cons r0
  obtain ⟨rfl, rfl, rfl⟩ := trodAll_nil r1
  obtain rfl : args = #[v0, v1] := by cases args; simp_all
  obtain ⟨rfl, rfl⟩ := trodVars_none hV
  obtain ⟨cs0, rfl, _⟩ := okWide_struct Tryz.underlying24 (hval 0 24 v0 rfl rfl)
  have k0 := h0
  have lt0 : ∀ x ∈ p0, x.block < W.heap.size := by obtain ⟨m, hm⟩ := k0; exact DataW.trod_lt m _ _ _ hm
  obtain ⟨x0, K0, ok0⟩ : ∃ x, k24.K W x cs0.toList ∧ ok24 x := by
    obtain ⟨fuel, hf⟩ := h0
    exact opens24.2 _ _ _ _ _ _ _ _ _ hf
  obtain ⟨A0_1, c0_1, e0, g0_1, hr0_1⟩ := k24_open K0
  obtain rfl : cs0 = #[.int .i64 (x0.f0), .slice A0_1 (x0.f1).length c0_1] := by cases cs0; simpa using e0
  obtain ⟨a1, rfl, rfl, rfl, y1⟩ := open_string Tryz.underlying9 (hval 1 9 v1 rfl rfl) h1
  clear hA0 hval0
  obtain ⟨k, hp⟩ := Pure.TariffBack (x0.f0) (x0.f1) a1 ok0.1 ok0.2 y1
  have hG : GI W := GI.of_laid laidL (by simp [laidL]) (by simp [laidL]) (by simp [laidL]) (by simp [laidL]) hL hsh
  refine (spilelaw46_TariffBack.calls k (x0.f0) _ _ (x0.f1) a1 true W hr0_1 g0_1 hG rfl hp).mono fun e W' ⟨he, bel⟩ => ?_
  subst he
  exact ⟨_, rfl, _, _, _, [], _, [], hW', trodAll_mk1 (shut_bool Tryz.underlying4 _), (trodAll_cons_mk (Below.trod laidOut (by kernel_rfl) (of_decide_eq_true (by kernel_rfl)) k0 bel lt0) (trodAll_cons_mk (shut_string Tryz.underlying9 y1) trodAll_mk0)), rfl, bel.frame _, fun h => by cases h⟩
theorem holds : Rows.TariffBackSaid :=
  OpenClaim.holds_of_wide 9 Tryz.f9 rfl rfl rfl rfl rfl rfl rfl ⟨rfl, rfl, rfl, rfl, rfl⟩ rfl rfl rfl rfl rfl (by kernel_rfl) Tryz.func9 (by kernel_rfl)
    (of_decide_eq_true (by kernel_rfl)) (by unfold Func.isWrapper; first | (rw [if_pos (by decide +kernel)]; kernel_rfl) | (rw [if_neg (by decide +kernel)]; exact ⟨rfl, rfl⟩))
    (fun os started H enc _ => lifted os started H enc)
theorem card : Rows.TariffBackCardSaid :=
  Claim7.holds_tied_plain_at .later [] [.data, .data, .data, .data, .sentinel, .sentinel, .widerDeep, .pinned] true (true, "e915a9bdfe9e1389aaf186e88c341004cfdabf0ce269b5d3aa2c8944f7f7b486") true
    holds (fun _ h => by cases h) (by kernel_rfl) (fun _ h => by cases h) tariffBack_row_tie rfl ⟨rfl, rfl⟩ (by kernel_rfl) rfl
    (fun f fn hf hfn => by
      obtain rfl : f = 9 := Option.some.inj ((show Tryz.prog.funcNamed "spile/spilelaw46.TariffBack" = some 9 by kernel_rfl).symm.trans hf) |>.symm
      obtain rfl : fn = Tryz.f9 := (Option.some.inj (Tryz.func9.symm.trans hfn)).symm
      exact ⟨by kernel_rfl, fun j t ht => by
        rw [Tryz.params9] at ht
        have hm : t ∈ [24, 9] := by simpa using Array.mem_of_getElem? ht
        have hall : ([24, 9].all fun u => !Tryz.prog.wantsStandIn u) = true := by kernel_rfl
        exact (show Tryz.prog.wantsStandIn t = false by simpa using List.all_eq_true.1 hall t hm)⟩)
    (by kernel_rfl)
end Go.Proofs.YtholbmidciapdaaGreatDoor.tariffBack
namespace Go.Proofs.YtholbmidciapdaaGreatDoor
/-- The card, under a short name, for the claim. -/
theorem tariffBack_holds : Rows.TariffBackCardSaid := tariffBack.card
#print axioms tariffBack_holds
end Go.Proofs.YtholbmidciapdaaGreatDoor
