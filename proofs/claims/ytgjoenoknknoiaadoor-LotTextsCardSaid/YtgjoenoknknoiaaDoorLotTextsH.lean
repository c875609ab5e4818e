/-
The law LotTexts returns true for every input that can be read as data, and leaves its arguments as they were: the row, and the card that ties the listed variables to the program's text.
No condition of its own beyond those that the given row prints.
-/
import Derived.HandedShaped
import Derived.Handed
import Derived.Test.YtgjoenoknknoiaaDoorCards
import Derived.Test.YtgjoenoknknoiaaDoorTie
import Derived.ProofKit
import Derived.OpenShut
import Derived.ShutString
import Derived.ChangeOld
import Derived.SizedLaws
import Derived.LaidMore
import Derived.Lay
import Derived.MakeChecks
import Derived.SevenTiedAt
import Derived.LaidSub
import Derived.LaidOnce
import Derived.Stop.Joined
import Derived.Stop.LaidErr
import Derived.Test.YtgjoenoknknoiaaDoorLotTextsG
set_option linter.unusedVariables false
set_option linter.unusedSimpArgs false
namespace Go.Proofs.YtgjoenoknknoiaaDoor.PL
open Go Go.RowKit Go.Proofs.YtgjoenoknknoiaaDoorW.PrintWords Go.Proofs.YtgjoenoknknoiaaDoorW.PrintLast Go.Proofs.YtgjoenoknknoiaaDoorW.PrintMore Go.Proofs.YtgjoenoknknoiaaDoor.Pr Go.Proofs.YtgjoenoknknoiaaDoor.Opn Go.Proofs.YtgjoenoknknoiaaDoor.TX Go.Proofs.YtgjoenoknknoiaaDoor.X
def Ok35 (s : S35) : Prop := 1 ≤ s.f0 ∧ s.f0 ≤ 1073741824 ∧ 1 ≤ s.f1 ∧ s.f1 ≤ 10737418240000
theorem shares_sem (l : List S35) (hl : (l.length : Int) ≤ 9223372036854775807) : ∀ i, 0 ≤ i → i ≤ (l.length : Int) →
    ∃ e, Ev (fun k => spileref22_Shares.l0 k l i) e ∧ (e = 0 → ∀ j, i ≤ j → j < (l.length : Int) → Ok35 (rd_T35 l j)) := by
  refine count_up 0 (l.length : Int) _ ?_ ?_
  · exact ⟨0, Ev.step (fun k => spileref22_Shares.l0.eq_2 ..) (evn (by omega) (Ev.now _)), fun _ j h0 h1 => by omega⟩
  · intro i h0 h1 ih
    obtain ⟨e, q1, q2⟩ := ih
    rw [← w64_succ h0 h1 hl] at q1
    by_cases c1 : (rd_T35 l i).f0 < 1
    · exact ⟨10, Ev.step (fun k => spileref22_Shares.l0.eq_2 ..) (evp h1 (evp h0 (evp c1 (Ev.now _)))), fun h => absurd h (by decide)⟩
    by_cases c2 : (rd_T35 l i).f0 > 1073741824
    · exact ⟨10, Ev.step (fun k => spileref22_Shares.l0.eq_2 ..) (evp h1 (evp h0 (evn c1 (evp c2 (Ev.now _))))), fun h => absurd h (by decide)⟩
    by_cases c3 : (rd_T35 l i).f1 < 1
    · exact ⟨10, Ev.step (fun k => spileref22_Shares.l0.eq_2 ..) (evp h1 (evp h0 (evn c1 (evn c2 (evp c3 (Ev.now _)))))), fun h => absurd h (by decide)⟩
    by_cases c4 : (rd_T35 l i).f1 > 10737418240000
    · exact ⟨10, Ev.step (fun k => spileref22_Shares.l0.eq_2 ..) (evp h1 (evp h0 (evn c1 (evn c2 (evn c3 (evp c4 (Ev.now _))))))), fun h => absurd h (by decide)⟩
    have all : e = 0 → ∀ j, i ≤ j → j < (l.length : Int) → Ok35 (rd_T35 l j) := fun h j g0 g1 => by
      by_cases ej : j = i
      · rw [ej]; exact ⟨by omega, by omega, by omega, by omega⟩
      · exact q2 h j (by omega) g1
    by_cases c5 : i > 0
    · have hp := w64_pred h0 (Int.le_of_lt h1) hl
      have p0 : 0 ≤ wrap64 (i - 1) := by rw [hp]; omega
      have p1 : wrap64 (i - 1) < (l.length : Int) := by rw [hp]; omega
      by_cases c6 : (rd_T35 l i).f0 ≤ (rd_T35 l (wrap64 (i - 1))).f0
      · exact ⟨10, Ev.step (fun k => spileref22_Shares.l0.eq_2 ..) (evp h1 (evp h0 (evn c1 (evn c2 (evn c3 (evn c4 (evp c5 (evp p0 (evp p1 (evp c6 (Ev.now _)))))))))) ), fun h => absurd h (by decide)⟩
      · exact ⟨e, Ev.step (fun k => spileref22_Shares.l0.eq_2 ..) (evp h1 (evp h0 (evn c1 (evn c2 (evn c3 (evn c4 (evp c5 (evp p0 (evp p1 (evn c6 q1)))))))))), all⟩
    · exact ⟨e, Ev.step (fun k => spileref22_Shares.l0.eq_2 ..) (evp h1 (evp h0 (evn c1 (evn c2 (evn c3 (evn c4 (evn c5 q1))))))), all⟩
def FineP (x : S33) : Prop := PlainP x.f1.f0 x.f1.f1 ∧ (x.f2.length : Int) ≤ 32 ∧ (∀ s, s ∈ x.f2 → Ok35 s) ∧ sumW 0 x.f2 = x.f1.f0
theorem fine_sem (x : S33) (h : Wf33 x) (hf : Fine x) : FineP x := by
  unfold Fine at hf
  by_cases c : PlainP x.f1.f0 x.f1.f1
  · have hr : Ev (fun _ : Nat => spileref21_Plain.f x.f1.f0 x.f1.f1) true := evc (fun _ => rfl) (by rw [ref_plain_eq, decide_eq_true c])
    by_cases c2 : x.f1.f1 = 0
    · have : Ev (fun k => spileref22_One.f k x.f0 x.f1.f0 x.f1.f1 x.f2) 1 := evb hr (evp rfl (Ev.step (fun k => spileref22_One.j0.eq_2 ..) (evp (by simpa using c2) (Ev.now _))))
      have := ev_unique hf this
      omega
    · have c3 : ¬ (x.f1.f1 == 0) = true := by simpa using c2
      obtain ⟨e, q1, q2, q3⟩ := shares_f_both x h
      by_cases he : e = 0
      · obtain ⟨t, q4, _⟩ := q3 he
        have ht : t = sumW 0 x.f2 := ev_unique q4 (alcohol_ev x.f2 h.2.2)
        have hlen : ¬ (x.f2.length : Int) > 32 := fun c4 => by
          have : Ev (fun k => spileref22_Shares.f k x.f2) 12 := evp c4 (Ev.now _)
          have := ev_unique q1 this
          omega
        obtain ⟨e2, s1, s2⟩ := shares_sem x.f2 h.2.2 0 (by omega) (by omega)
        have he2 : e2 = e := ev_unique (show Ev (fun k => spileref22_Shares.f k x.f2) e2 from evn hlen s1) q1
        have hsum : t = x.f1.f0 := by
          by_cases c5 : t = x.f1.f0
          · exact c5
          · have : Ev (fun k => spileref22_One.f k x.f0 x.f1.f0 x.f1.f1 x.f2) 14 := evb hr (evp rfl (Ev.step (fun k => spileref22_One.j0.eq_2 ..) (evn c3 (evb q1 (evp he (evb q4 (evn c5 (Ev.now _))))))))
            have := ev_unique hf this
            omega
        refine ⟨c, by omega, fun s hs => ?_, by rw [← ht]; exact hsum⟩
        obtain ⟨i, hi, es⟩ := List.mem_iff_getElem.1 hs
        have := s2 (by omega) (i : Int) (by omega) (by omega)
        have er : rd_T35 x.f2 (i : Int) = s := by
          unfold rd_T35
          simp [List.getD_eq_getElem?_getD, List.getElem?_eq_getElem hi, es]
        rw [er] at this
        exact this
      · have : Ev (fun k => spileref22_One.f k x.f0 x.f1.f0 x.f1.f1 x.f2) e := evb hr (evp rfl (Ev.step (fun k => spileref22_One.j0.eq_2 ..) (evn c3 (evb q1 (evn he (Ev.now _))))))
        exact absurd (ev_unique this hf) he
  · have hr : Ev (fun _ : Nat => spileref21_Plain.f x.f1.f0 x.f1.f1) false := evc (fun _ => rfl) (by rw [ref_plain_eq, decide_eq_false c])
    have : Ev (fun k => spileref22_One.f k x.f0 x.f1.f0 x.f1.f1 x.f2) 1 := evb hr (evn (by simp) (Ev.step (fun k => spileref22_One.j0.eq_2 ..) (evp rfl (Ev.now _))))
    have := ev_unique hf this
    omega
def partT (s : S35) : List UInt8 := (([32, 102, 105, 108, 108, 32] ++ Lib.itoa s.f0) ++ [32, 97, 108, 99, 111, 104, 111, 108, 32]) ++ Lib.itoa s.f1
def partsT : List S35 → List UInt8
  | [] => []
  | s :: r => partT s ++ partsT r
def headT (x : S33) : List UInt8 := (([108, 111, 116, 32] ++ Lib.itoa x.f0) ++ [32, 109, 97, 115, 115, 32]) ++ Lib.itoa x.f1.f1
def lineT (x : S33) : List UInt8 := headT x ++ partsT x.f2
def printL : List S33 → List UInt8
  | [] => []
  | x :: r => lineT x ++ (10 :: printL r)
theorem itoa_dig {n : Int} (h0 : 0 ≤ n) : Lib.itoa n = Lib.decDigits n.toNat := by unfold Lib.itoa; rw [if_neg (by omega)]
theorem itoa_len {n : Int} (h0 : 0 ≤ n) (h1 : n < 1000000000000000) : (Lib.itoa n).length ≤ 15 := by
  rw [itoa_dig h0]
  exact digits_length_le (by omega) (by decide)
theorem partT_len {s : S35} (h : Ok35 s) : (partT s).length ≤ 45 := by
  have a := itoa_len (n := s.f0) (by unfold Ok35 at h; omega) (by unfold Ok35 at h; omega)
  have b := itoa_len (n := s.f1) (by unfold Ok35 at h; omega) (by unfold Ok35 at h; omega)
  unfold partT
  simp; omega
theorem headT_len {x : S33} (h : IdP x) (hf : FineP x) : (headT x).length ≤ 40 := by
  have hp := hf.1
  unfold IdP at h
  unfold PlainP at hp
  have a := itoa_len (n := x.f0) (by omega) (by omega)
  have b := itoa_len (n := x.f1.f1) (by omega) (by omega)
  unfold headT
  simp; omega
theorem head_eq {x : S33} (h : IdP x) (hf : FineP x) : lot_Print.head x = some (ba (headT x)) := by
  have hp := hf.1
  unfold IdP at h
  unfold PlainP at hp
  have a := itoa_len (n := x.f0) (by omega) (by omega)
  have b := itoa_len (n := x.f1.f1) (by omega) (by omega)
  unfold lot_Print.head
  rw [itoa_f (by omega) (by omega), itoa_f (by omega) (by omega)]
  show (if (ba (Lib.itoa x.f0)).size ≤ 100 ∧ (ba (Lib.itoa x.f1.f1)).size ≤ 100 then some (((ba [108, 111, 116, 32] ++ ba (Lib.itoa x.f0)) ++ ba [32, 109, 97, 115, 115, 32]) ++ ba (Lib.itoa x.f1.f1)) else none) = _
  rw [if_pos (by rw [ba_size, ba_size]; omega), ba_app, ba_app, ba_app]
  rfl
theorem part_eq {s : S35} (h : Ok35 s) : lot_Print.part s = some (ba (partT s)) := by
  have h2 := h
  unfold Ok35 at h2
  have a := itoa_len (n := s.f0) (by omega) (by omega)
  have b := itoa_len (n := s.f1) (by omega) (by omega)
  unfold lot_Print.part
  rw [itoa_f (by omega) (by omega), itoa_f (by omega) (by omega)]
  show (if (ba (Lib.itoa s.f0)).size ≤ 100 ∧ (ba (Lib.itoa s.f1)).size ≤ 100 then some (((ba [32, 102, 105, 108, 108, 32] ++ ba (Lib.itoa s.f0)) ++ ba [32, 97, 108, 99, 111, 104, 111, 108, 32]) ++ ba (Lib.itoa s.f1)) else none) = _
  rw [if_pos (by rw [ba_size, ba_size]; omega), ba_app, ba_app, ba_app]
  rfl
theorem app_eq (acc s : List UInt8) (h : acc.length + s.length ≤ 140737488355328) : lot_Print.app acc (ba s) = some (acc ++ s) := by
  unfold lot_Print.app
  rw [ba_size, if_pos h]
  rfl
theorem rd35_mem {l : List S35} {i : Int} (h0 : 0 ≤ i) (h1 : i < (l.length : Int)) : rd_T35 l i ∈ l := by
  have hl : i.toNat < l.length := by omega
  unfold rd_T35
  simp [List.getD_eq_getElem?_getD, List.getElem?_eq_getElem hl]
theorem lot_print_loop (l : List S33) (hn : (l.length : Int) ≤ 32) (h : ∀ x, x ∈ l → IdP x ∧ FineP x) : ∀ i, 0 ≤ i → i ≤ (l.length : Int) → ∀ acc : List UInt8, (acc.length : Int) ≤ 1600 * i →
    Ev (fun k => lot_Print.l0 k l acc i) (ba (acc ++ printL (l.drop i.toNat)), 0) := by
  refine count_up 0 (l.length : Int) _ ?_ ?_
  · intro acc ha
    rw [List.drop_eq_nil_of_le (by omega)]
    exact Ev.step (fun k => lot_Print.l0.eq_2 ..) (evn (by omega) (evr (by simp [printL]; rfl)))
  · intro i h0 h1 ih acc ha
    have hx := h _ (rd33_mem h0 h1)
    have hl2 := hx.2.2.1
    have hh := headT_len hx.1 hx.2
    rw [drop_next h0 h1]
    have inner : ∀ j, 0 ≤ j → j ≤ ((rd_T33 l i).f2.length : Int) → ∀ acc2 : List UInt8, (acc2.length : Int) ≤ 1600 * i + 50 + 45 * j →
        Ev (fun k => lot_Print.l1 k l acc2 i j) (ba (acc2 ++ (partsT ((rd_T33 l i).f2.drop j.toNat) ++ (10 :: printL (l.drop (i + 1).toNat)))), 0) := by
      refine count_up 0 ((rd_T33 l i).f2.length : Int) _ ?_ ?_
      · intro acc2 ha2
        rw [List.drop_eq_nil_of_le (by omega)]
        have q := ih (acc2 ++ [10]) (by rw [List.length_append]; simp; omega)
        rw [List.append_assoc] at q
        refine Ev.step (fun k => lot_Print.l1.eq_2 ..) (evn (by omega) (evb (evc (fun _ => rfl) (app_eq acc2 [10] (by simp; omega))) ?_))
        rw [w64_succ h0 h1 (by omega)]
        exact q
      · intro j g0 g1 ih2 acc2 ha2
        have hs := hx.2.2.2.1 _ (rd35_mem g0 g1)
        have hp := partT_len hs
        have q := ih2 (acc2 ++ partT (rd_T35 (rd_T33 l i).f2 j)) (by rw [List.length_append]; omega)
        rw [drop35 g0 g1]
        rw [List.append_assoc] at q
        refine Ev.step (fun k => lot_Print.l1.eq_2 ..) (evp g1 (evp g0 (evb (evc (fun _ => rfl) (part_eq hs)) (evb (evc (fun _ => rfl) (app_eq acc2 _ (by omega))) ?_))))
        rw [w64_succ g0 g1 (by omega)]
        simp only [partsT, List.append_assoc] at q ⊢
        exact q
    have q := inner 0 (by omega) (by omega) (acc ++ headT (rd_T33 l i)) (by rw [List.length_append]; omega)
    rw [show (0 : Int).toNat = 0 from rfl, List.drop_zero] at q
    refine Ev.step (fun k => lot_Print.l0.eq_2 ..) (evp h1 (evp h0 (evb (evc (fun _ => rfl) (head_eq hx.1 hx.2)) (evb (evc (fun _ => rfl) (app_eq acc _ (by omega))) ?_))))
    simp only [printL, lineT, List.append_assoc] at q ⊢
    exact q
theorem dec_ev {n : Int} (h0 : 0 ≤ n) (h1 : n < 1000000000000000) : Ev (fun k => spileref16_Decimal.f k n) (ba (Lib.itoa n)) := decimal_ev n.toNat n h0 (by omega) (by omega)
theorem ref_print_loop (l : List S33) (hn : (l.length : Int) ≤ 32) (h : ∀ x, x ∈ l → IdP x ∧ FineP x) : ∀ i, 0 ≤ i → i ≤ (l.length : Int) → ∀ acc : List UInt8, (acc.length : Int) ≤ 1600 * i →
    Ev (fun k => spileref22_Print.l0 k l (ba acc) i) (ba (acc ++ printL (l.drop i.toNat)), 0) := by
  refine count_up 0 (l.length : Int) _ ?_ ?_
  · intro acc ha
    rw [List.drop_eq_nil_of_le (by omega)]
    exact Ev.step (fun k => spileref22_Print.l0.eq_2 ..) (evn (by omega) (evr (by simp [printL])))
  · intro i h0 h1 ih acc ha
    have hx := h _ (rd33_mem h0 h1)
    have hl2 := hx.2.2.1
    have hp0 := hx.2.1
    have hid := hx.1
    unfold IdP at hid
    unfold PlainP at hp0
    have z0 := itoa_len (n := (rd_T33 l i).f0) (by omega) (by omega)
    have z1 := itoa_len (n := (rd_T33 l i).f1.f1) (by omega) (by omega)
    rw [drop_next h0 h1]
    have inner : ∀ j, 0 ≤ j → j ≤ ((rd_T33 l i).f2.length : Int) → ∀ acc2 : List UInt8, (acc2.length : Int) ≤ 1600 * i + 50 + 45 * j →
        Ev (fun k => spileref22_Print.l1 k l (ba acc2) i j) (ba (acc2 ++ (partsT ((rd_T33 l i).f2.drop j.toNat) ++ (10 :: printL (l.drop (i + 1).toNat)))), 0) := by
      refine count_up 0 ((rd_T33 l i).f2.length : Int) _ ?_ ?_
      · intro acc2 ha2
        rw [List.drop_eq_nil_of_le (by omega)]
        have q := ih (acc2 ++ [10]) (by rw [List.length_append]; simp; omega)
        rw [List.append_assoc, ← ba_app] at q
        refine Ev.step (fun k => spileref22_Print.l1.eq_2 ..) (evp h0 (evp h1 (evn (by omega) (evp (by rw [ba_size]; omega) ?_))))
        rw [w64_succ h0 h1 (by omega)]
        exact q
      · intro j g0 g1 ih2 acc2 ha2
        have hs := hx.2.2.2.1 _ (rd35_mem g0 g1)
        have hs2 := hs
        unfold Ok35 at hs2
        have y0 := itoa_len (n := (rd_T35 (rd_T33 l i).f2 j).f0) (by omega) (by omega)
        have y1 := itoa_len (n := (rd_T35 (rd_T33 l i).f2 j).f1) (by omega) (by omega)
        have hp := partT_len hs
        have q := ih2 (acc2 ++ partT (rd_T35 (rd_T33 l i).f2 j)) (by rw [List.length_append]; omega)
        rw [drop35 g0 g1]
        rw [List.append_assoc] at q
        refine Ev.step (fun k => spileref22_Print.l1.eq_2 ..) (evp h0 (evp h1 (evp g1 (evp (by rw [ba_size]; omega) (evp g0 (evb (dec_ev (by omega) (by omega)) ?_))))))
        have e1 : ba acc2 ++ (⟨#[32, 102, 105, 108, 108, 32]⟩ : ByteArray) = ba (acc2 ++ [32, 102, 105, 108, 108, 32]) := ba_app _ _
        rw [e1, ba_app]
        have e2 : ba (acc2 ++ [32, 102, 105, 108, 108, 32] ++ Lib.itoa (rd_T35 (rd_T33 l i).f2 j).f0) ++ (⟨#[32, 97, 108, 99, 111, 104, 111, 108, 32]⟩ : ByteArray) = ba (acc2 ++ [32, 102, 105, 108, 108, 32] ++ Lib.itoa (rd_T35 (rd_T33 l i).f2 j).f0 ++ [32, 97, 108, 99, 111, 104, 111, 108, 32]) := ba_app _ _
        rw [e2]
        refine evp (by rw [ba_size, ba_size, List.length_append]; simp; omega) (evp (by rw [ba_size, List.length_append, List.length_append]; simp; omega) (evb (dec_ev (by omega) (by omega)) (evp (by rw [ba_size, ba_size]; simp only [List.length_append, List.length_cons, List.length_nil]; omega) ?_)))
        rw [ba_app, w64_succ g0 g1 (by omega)]
        simp only [partsT, partT, List.append_assoc] at q ⊢
        exact q
    have q := inner 0 (by omega) (by omega) (acc ++ headT (rd_T33 l i)) (by have := headT_len hx.1 hx.2; rw [List.length_append]; omega)
    rw [show (0 : Int).toNat = 0 from rfl, List.drop_zero] at q
    refine Ev.step (fun k => spileref22_Print.l0.eq_2 ..) (evp h1 (evp (by rw [ba_size]; omega) (evp h0 (evb (dec_ev (by omega) (by omega)) ?_))))
    have e1 : ba acc ++ (⟨#[108, 111, 116, 32]⟩ : ByteArray) = ba (acc ++ [108, 111, 116, 32]) := ba_app _ _
    rw [e1, ba_app]
    have e2 : ba (acc ++ [108, 111, 116, 32] ++ Lib.itoa (rd_T33 l i).f0) ++ (⟨#[32, 109, 97, 115, 115, 32]⟩ : ByteArray) = ba (acc ++ [108, 111, 116, 32] ++ Lib.itoa (rd_T33 l i).f0 ++ [32, 109, 97, 115, 115, 32]) := ba_app _ _
    rw [e2]
    refine evp (by rw [ba_size, ba_size]; simp only [List.length_append, List.length_cons, List.length_nil]; omega) (evp (by rw [ba_size]; simp only [List.length_append, List.length_cons, List.length_nil]; omega) (evb (dec_ev (by omega) (by omega)) (evp (by rw [ba_size, ba_size]; simp only [List.length_append, List.length_cons, List.length_nil]; omega) ?_)))
    rw [ba_app]
    simp only [printL, lineT, headT, List.append_assoc] at q ⊢
    exact q
theorem right_fine {l : List S33} (hw : ∀ x, x ∈ l → Wf33 x) (h : RightL l) : ∀ x, x ∈ l → IdP x ∧ FineP x := fun x hx => ⟨(h.2.2 x hx).1, fine_sem x (hw x hx) (h.2.2 x hx).2⟩
theorem print_both (l : List S33) (hl : (l.length : Int) ≤ 9223372036854775807) (hw : ∀ x, x ∈ l → Wf33 x) : ∃ r, Ev (fun k => lot_Print.f k l) r ∧ Ev (fun k => spileref22_Print.f k l) r ∧ (RightL l → r = (ba (printL l), 0)) ∧ (¬ RightL l → r = (ba [], 1)) := by
  obtain ⟨b, b1, b2, b3⟩ := right_iff l hl (fun i h0 h1 => hw _ (rd33_mem h0 h1))
  cases b with
  | false =>
    have hn : ¬ RightL l := fun h => by have := b3.2 h; cases this
    exact ⟨(ba [], 1), evb b1 (evn (by simp) (Ev.now _)), evb b2 (evn (by simp) (Ev.now _)), fun h => absurd h hn, fun _ => rfl⟩
  | true =>
    have hr := b3.1 rfl
    have hf := right_fine hw hr
    have p1 := lot_print_loop l hr.1 hf 0 (by omega) (by omega) [] (by simp)
    have p2 := ref_print_loop l hr.1 hf 0 (by omega) (by omega) [] (by simp)
    rw [show (0 : Int).toNat = 0 from rfl, List.drop_zero, List.nil_append] at p1 p2
    exact ⟨_, evb b1 (evp rfl p1), evb b2 (evp rfl p2), fun _ => rfl, fun h => absurd hr h⟩
end Go.Proofs.YtgjoenoknknoiaaDoor.PL
namespace Go.Proofs.YtgjoenoknknoiaaDoor.Pure
open Go.RowKit Go.Proofs.YtgjoenoknknoiaaDoorW.PrintWords Go.Proofs.YtgjoenoknknoiaaDoorW.PrintLast Go.Proofs.YtgjoenoknknoiaaDoorW.PrintMore Go.Proofs.YtgjoenoknknoiaaDoor.Pr Go.Proofs.YtgjoenoknknoiaaDoor.Opn Go.Proofs.YtgjoenoknknoiaaDoor.X Go.Proofs.YtgjoenoknknoiaaDoor.PL Go.Proofs.YtgjoenoknknoiaaDoor.TX
theorem LotTexts : lotTextsPure := by
  intro l s hl hs
  refine Ev.rounds ?_
  have hn := len_le hl.1
  obtain ⟨t, f1, f2⟩ := few_ev l hn
  have hw0 := wf_all l hl
  have hw : ∀ x, x ∈ l → Wf33 x := fun x hx => by
    obtain ⟨i, h0, h1, rfl⟩ := mem_rd33 hx
    exact hw0 i h0 h1
  have haw : Ev (fun _ : Nat => spilelaw22_awake.f) true := Ev.now _
  cases t with
  | false => exact evb haw (evp rfl (evb f1 (evn (by simp) (Ev.step (fun k => spilelaw22_LotTexts.j0.eq_2 ..) (evp rfl (Ev.now _))))))
  | true =>
    refine evb haw (evp rfl (evb f1 (evp rfl ?_)))
    by_cases c : (s.size : Int) > 1000
    · rw [decide_eq_true c]
      exact Ev.step (fun k => spilelaw22_LotTexts.j0.eq_2 ..) (evp rfl (Ev.now _))
    · rw [decide_eq_false c]
      obtain ⟨p, p1, p2, _, _⟩ := print_both l hn hw
      obtain ⟨r, r1, r2, r3⟩ := parse_both s (by omega)
      have same : Ev (fun k => spileref22_Same.f k r.1 r.1) true := by
        have nil : Ev (fun k => spileref22_Same.f k ([] : List S33) []) true := same_ev [] (by simp) (fun y hy => absurd hy (by simp))
        cases hrun : run (lin [] s.data.toList).2 (lin [] s.data.toList).1 [] with
        | mk o st =>
          rw [hrun] at r3
          cases st with
          | some i => rw [show r = ([], (i : Int), 3) from r3]; exact nil
          | none =>
            obtain ⟨⟨c, e, hc⟩, hg⟩ := r3
            rw [e]
            unfold fin
            by_cases q : c.2 = 0
            · rw [if_pos q]
              have hr := hc.1 q
              refine same_ev o (by have := hr.1; omega) (fun y hy => ?_)
              have := (right_fine hg hr y hy).2.2.1
              omega
            · rw [if_neg q]; exact nil
      refine Ev.step (fun k => spilelaw22_LotTexts.j0.eq_2 ..) (evn (by simp) (evb p1 (evb p2 (evb r1 (evb r2 ?_)))))
      exact evp rfl (evp rfl (evb same (evp rfl (evp rfl (evr (by simp))))))
end Go.Proofs.YtgjoenoknknoiaaDoor.Pure
namespace Go.Proofs.YtgjoenoknknoiaaDoor.X
open Go
variable {H : Type} {enc : TypeId × Value → H}
theorem wrap_shaped {a : Assume} {C : Checked} {os : Os} {f : FuncId} {fn : Func} {s : ChangeSpec} {conds : List PathCond} {apart fresh handsOn again : Bool} {X : World → Array Value → Prop}
    (hX : ∀ (w w' : World) (args : Array Value), w.heap = w'.heap → X w args → X w' args)
    (own : ownKnob C.prog.godebug = none) (started : os.Started) (noInit : C.prog.inits.idxOf? f = none) (hfn : C.prog.funcs[f]? = some fn)
    (witness : ∃ (w : World) (tape : Tape) (i : Input), w.os = os ∧ (w.forCall tape i).Shaped C.prog ∧ i.vars = [] ∧ Input.okWide C.prog (w.forCall tape i) .any w.heap.size f i ∧
      ((s.pre enc C.prog fn conds apart (w.forCall tape i).memory i.args ∧ X (w.forCall tape i).memory i.args) ∧ sizedMet enc C.prog fn (OpenSpec.ofChange s) apart (w.forCall tape i).memory i.args) ∧ a.holds C.prog (lone (Frame.enter C.prog f i.args .normal) [] (w.forCall tape i)))
    (walk : ∀ (W : World) (base : Nat) (args : Array Value) (ds gs : List (DataW H)) (before : List MemPlace),
      (∀ (j : Nat) t v, fn.params[j]? = some t → args[j]? = some v → Value.okWide C.prog W .any base t v) →
      DataW.Whole enc C.prog fn.params.toList s.vars apart W args.toList ds gs before → X W args → W.ShapedOpen C.prog →
      Calls C.prog f args W fun e W' => ∃ v, e = .returned v ∧ s.post enc C.prog fn apart fresh handsOn again W args v W') :
    ReturnsInHanded a C os f .any (fun w args => (s.pre enc C.prog fn conds apart w args ∧ X w args) ∧ sizedMet enc C.prog fn (OpenSpec.ofChange s) apart w args) (s.post enc C.prog fn apart fresh handsOn again) := by
  refine returnsInHanded_of_calls own started noInit witness ?_
  intro w tape i _ hsh _ hok hpre _
  obtain ⟨_, _, _, fn', hfn', _, _, _, _, hval⟩ := hok
  obtain rfl : fn' = fn := Option.some.inj (hfn'.symm.trans hfn)
  obtain ⟨⟨⟨ds, gs, before, hw, _⟩, hx⟩, _⟩ := hpre
  refine (walk (w.forCall tape i) w.heap.size i.args ds gs before hval (DataW.Whole.of_heap (w' := w.forCall tape i) (by rfl) hw) (hX _ _ _ (by rfl) hx) hsh).mono fun e W' ⟨v, he, hp⟩ => ?_
  subst he
  exact ChangeSpec.post_blind hp
end Go.Proofs.YtgjoenoknknoiaaDoor.X
namespace Go.Proofs.YtgjoenoknknoiaaDoor.lotTexts
open Go Go.ChangeShapes Go.WideShapes Go.ChangeAt Go.RowKit
open Go.ChangeMaps (open_string shut_string)
open Go.Proofs.YtgjoenoknknoiaaDoorW.PrintWords Go.Proofs.YtgjoenoknknoiaaDoor.O Go.Proofs.YtgjoenoknknoiaaDoor.Opn Go.Proofs.YtgjoenoknknoiaaDoor.Pr Go.Proofs.YtgjoenoknknoiaaDoor.X
theorem own : ownKnob Tryd.prog.godebug = none := by kernel_rfl
theorem laidOut : laidOutB Tryd.prog = true := by kernel_rfl
abbrev laidL : List (String × DataW Unit) := [("math/bits.deBruijn32tab", Rows.laid_math_bits_deBruijn32tab), ("math/bits.deBruijn64tab", Rows.laid_math_bits_deBruijn64tab), ("internal/strconv.uint64pow10", Rows.laid_internal_strconv_uint64pow10), ("unicode/utf8.acceptRanges", Rows.laid_unicode_utf8_acceptRanges), ("strconv.ErrRange", Rows.laid_strconv_ErrRange), ("strconv.ErrSyntax", Rows.laid_strconv_ErrSyntax), ("unicode/utf8.first", Rows.laid_unicode_utf8_first)]
set_option maxRecDepth 100000 in
theorem lifted (os : Os) (started : os.Started) (H : Type) (enc : TypeId × Value → H) :
    ReturnsInHanded {} Tryd.checked os 8 .any (fun w args => (Rows.lotTextsSpec.pre enc Tryd.prog Tryd.f8 [] false w args ∧ laidMetH Tryd.prog laidL w) ∧ sizedMet enc Tryd.prog Tryd.f8 (OpenSpec.ofChange Rows.lotTextsSpec) false w args)
      (Rows.lotTextsSpec.post enc Tryd.prog Tryd.f8 false true false false) := by
  refine wrap_shaped (C := Tryd.checked) (X := (fun w _ => laidMetH Tryd.prog laidL w)) (fun _ _ _ hh h => h.of_heap hh) own started (by kernel_rfl) Tryd.func8
    (ChangeSpec.witness_shaped (enc := enc) (C := Tryd.checked) (os := os) (X := (fun w _ => laidMetH Tryd.prog laidL w)) false (World.laidAll Tryd.prog os laidL) #[.slice none 0 0, .string ByteArray.empty] 8 (World.laidAll_os _ _ _) (World.shaped_of_ZipB (by kernel_rfl) (by kernel_rfl)) (by kernel_rfl) (by kernel_rfl) (by kernel_rfl) (by rw [MakeChecks.laidMetH_plain _ _ _ (by kernel_rfl)]; exact laidMet_laidAll _ (by kernel_rfl) (by kernel_rfl))) ?_
  intro W base args ds gs before hval0 hW hL hsh
  have hval : ∀ (j : Nat) t v, Tryd.f8.params[j]? = some t → args[j]? = some v → Value.okWide Tryd.prog W .any base t v := hval0
  have hW' := hW
  obtain ⟨p, q, hA0, hV, rfl, hfz, hnd⟩ := hW
  have hA : DataW.TrodAll enc Tryd.prog W 0 (fun _ => true) true Tryd.f8.params.toList args.toList ds p := hA0
  rw [Tryd.params8] at hA hval
  obtain ⟨v0, vs0, d0, ds0, p0, q0, hargs, rfl, rfl, h0, r0⟩ := trodAll_cons hA
  obtain ⟨v1, vs1, d1, ds1, p1, q1, rfl, rfl, rfl, h1, r1⟩ := trodAll_cons r0
  obtain ⟨rfl, rfl, rfl⟩ := trodAll_nil r1
  obtain rfl : args = #[v0, v1] := by cases args; simp_all
  obtain ⟨rfl, rfl⟩ := trodVars_none hV
  obtain ⟨a0_, len0_, cap0_, rfl⟩ := okWide_slice Tryd.underlying22 (hval 0 22 v0 rfl rfl)
  have k0 := h0
  have lt0 : ∀ x ∈ p0, x.block < W.heap.size := by obtain ⟨m, hm⟩ := k0; exact DataW.trod_lt m _ _ _ hm
  obtain ⟨l0, K0, ok0⟩ : ∃ x, (Kd.slice 33 k33).K W x [.slice a0_ len0_ cap0_] ∧ (x.length ≤ maxLen ∧ ∀ x0_, x0_ ∈ x → ok33 x0_) := by
    obtain ⟨fuel, hf⟩ := h0
    exact opens22.2 _ _ _ _ _ _ _ _ _ hf
  obtain ⟨A0, c0, e0, g0, hr0⟩ := K0
  simp only [List.cons.injEq, Value.slice.injEq, and_true] at e0
  obtain ⟨rfl, rfl, rfl⟩ := e0
  obtain ⟨a1, rfl, rfl, rfl, y1⟩ := open_string Tryd.underlying9 (hval 1 9 v1 rfl rfl) h1
  clear hA0 hval0
  obtain ⟨k, hp⟩ := Pure.LotTexts l0 a1 ok0 y1
  have hG : GI W := GI.of_laid laidL (by simp [laidL]) (by simp [laidL]) (by simp [laidL]) hL hsh
  refine (spilelaw22_LotTexts.calls k _ _ l0 a1 true W hr0 g0 hG rfl hp).mono fun e W' ⟨he, bel⟩ => ?_
  subst he
  exact ⟨_, rfl, _, _, _, [], _, [], hW', trodAll_mk1 (shut_bool Tryd.underlying4 _), (trodAll_cons_mk (Below.trod laidOut (by kernel_rfl) (of_decide_eq_true (by kernel_rfl)) k0 bel lt0) (trodAll_cons_mk (shut_string Tryd.underlying9 y1) trodAll_mk0)), rfl, bel.frame _, fun h => by cases h⟩
theorem holds : Rows.LotTextsSaid :=
  OpenClaim.holds_of_wide 8 Tryd.f8 rfl rfl rfl rfl rfl rfl rfl ⟨rfl, rfl, rfl, rfl, rfl⟩ rfl rfl rfl rfl rfl (by kernel_rfl) Tryd.func8 (by kernel_rfl)
    (of_decide_eq_true (by kernel_rfl)) (by unfold Func.isWrapper; first | (rw [if_pos (by decide +kernel)]; kernel_rfl) | (rw [if_neg (by decide +kernel)]; exact ⟨rfl, rfl⟩))
    (fun os started H enc _ => lifted os started H enc)
theorem card : Rows.LotTextsCardSaid :=
  Claim7.holds_tied_plain_at .later [] [.data, .data, .data, .data, .sentinel, .sentinel, .pinned] true (true, "6d3d5d07b3fa15e36186e74d1341de65e21d118781572820ba764e384a48d39d") true
    holds (fun _ h => by cases h) (by kernel_rfl) (fun _ h => by cases h) lotTexts_row_tie rfl ⟨rfl, rfl⟩ (by kernel_rfl) rfl
    (fun f fn hf hfn => by
      obtain rfl : f = 8 := Option.some.inj ((show Tryd.prog.funcNamed "spile/spilelaw22.LotTexts" = some 8 by kernel_rfl).symm.trans hf) |>.symm
      obtain rfl : fn = Tryd.f8 := (Option.some.inj (Tryd.func8.symm.trans hfn)).symm
      exact ⟨by kernel_rfl, fun j t ht => by
        rw [Tryd.params8] at ht
        have hm : t ∈ [22, 9] := by simpa using Array.mem_of_getElem? ht
        have hall : ([22, 9].all fun u => !Tryd.prog.wantsStandIn u) = true := by kernel_rfl
        exact (show Tryd.prog.wantsStandIn t = false by simpa using List.all_eq_true.1 hall t hm)⟩)
    (by kernel_rfl)
end Go.Proofs.YtgjoenoknknoiaaDoor.lotTexts
namespace Go.Proofs.YtgjoenoknknoiaaDoor
/-- The card, under a short name, for the claim. -/
theorem lotTexts_holds : Rows.LotTextsCardSaid := lotTexts.card
#print axioms lotTexts_holds
end Go.Proofs.YtgjoenoknknoiaaDoor
