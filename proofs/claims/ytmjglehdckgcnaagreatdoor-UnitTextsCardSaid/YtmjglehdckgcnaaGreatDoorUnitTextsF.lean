/-
The law UnitTexts returns true for every input that can be read as data, and leaves its arguments as they were: the row, and the card that ties the listed variables to the program's text.
No condition of its own beyond those that the given row prints.
-/
import Derived.HandedShaped
import Derived.Handed
import Derived.Test.YtmjglehdckgcnaaGreatDoorCards
import Derived.Test.YtmjglehdckgcnaaGreatDoorTie
import Derived.ProofKit
import Derived.OpenShut
import Derived.ShutString
import Derived.ChangeOld
import Derived.SizedLaws
import Derived.LaidMore
import Derived.Lay
import Derived.MakeChecks
import Derived.SevenTiedAt
import Derived.LaidSub
import Derived.LaidOnce
import Derived.Stop.Joined
import Derived.Stop.LaidErr
import Derived.Test.YtmjglehdckgcnaaGreatDoorUnitTextsE
set_option linter.unusedVariables false
set_option linter.unusedSimpArgs false
namespace Go.Proofs.YtmjglehdckgcnaaGreatDoor.Pr
open Go Go.RowKit Go.Lib Go.Proofs.YtmjglehdckgcnaaGreatDoorW.PrintWords Go.Proofs.YtmjglehdckgcnaaGreatDoorW.PrintLast Go.Proofs.YtmjglehdckgcnaaGreatDoorW.PrintMore Go.Proofs.YtmjglehdckgcnaaGreatDoor.X Go.Proofs.YtmjglehdckgcnaaGreatDoor.TX Go.Proofs.YtmjglehdckgcnaaGreatDoor.PL Go.Proofs.YtmjglehdckgcnaaGreatDoor.SQ
theorem tdiv_nat (a b : Nat) : Int.tdiv (a : Int) (b : Int) = ((a / b : Nat) : Int) := rfl
theorem tmod_nat (a b : Nat) : Int.tmod (a : Int) (b : Int) = ((a % b : Nat) : Int) := rfl
theorem w64n {n : Nat} (h : n ≤ 9223372036854775807) : wrap64 (n : Int) = (n : Int) := w64 (by omega) (by omega)
theorem itoa_nat {n : Nat} (h : n ≤ 4611686018427387904) : strconv_Itoa.f (n : Int) = some ⟨(decDigits n).toArray⟩ := by
  rw [itoa_mag (by omega) (by omega)]
  rfl
theorem pow_le8 {z : Nat} (h : z ≤ 8) : 10 ^ z ≤ 100000000 := by
  have : 10 ^ z ≤ 10 ^ 8 := Nat.pow_le_pow_right (by omega) h
  omega
theorem pow_ten (z : Nat) : Int.tdiv ((10 ^ (z + 1) : Nat) : Int) 10 = ((10 ^ z : Nat) : Int) := by
  show Int.tdiv ((10 ^ (z + 1) : Nat) : Int) ((10 : Nat) : Int) = _
  rw [tdiv_nat, Nat.pow_succ, Nat.mul_div_cancel _ (by omega)]
def bytesOf (l : List UInt8) : ByteArray := ⟨l.toArray⟩
theorem dec_loop : ∀ (z r : Nat) (acc : ByteArray), z ≤ 8 → r < 10 ^ z → acc.size + 20 * z ≤ 1000 → Ev (fun k => spileref03_decimal.l0 k ((10 ^ z : Nat) : Int) acc (r : Int)) (bytesOf (acc.data.toList ++ restD z r))
  | 0, r, acc, hz, hr, hs => by
    have : r = 0 := by simpa using hr
    subst this
    refine Ev.step (fun k => spileref03_decimal.l0.eq_2 ..) ?_
    refine evn (by omega) (evr ?_)
    exact bytes_ext (by show acc.data.toList = acc.data.toList ++ []; rw [List.append_nil])
  | z + 1, r, acc, hz, hr, hs => by
    refine Ev.step (fun k => spileref03_decimal.l0.eq_2 ..) ?_
    by_cases c : r = 0
    · subst c
      refine evn (by omega) (evr ?_)
      rw [rest_zero]
      exact bytes_ext (by show acc.data.toList = acc.data.toList ++ []; rw [List.append_nil])
    · have hp := pow_le8 (show z ≤ 8 by omega)
      have hp0 : 0 < 10 ^ z := Nat.pow_pos (by omega)
      refine evp (by omega) ?_
      have h10 : r < 10 * 10 ^ z := by rw [Nat.pow_succ] at hr; omega
      have hq : r / 10 ^ z < 10 := by rw [Nat.div_lt_iff_lt_mul hp0]; omega
      rw [pow_ten z, w64 (x := ((10 ^ z : Nat) : Int)) (by omega) (by omega), tdiv_nat, tmod_nat, w64n (n := r / 10 ^ z) (by omega)]
      refine evn (by omega) ?_
      have hi : strconv_Itoa.f ((r / 10 ^ z : Nat) : Int) = some (bytesOf (decDigits (r / 10 ^ z))) := itoa_nat (by omega)
      refine evb (evc (fun _ => hi) rfl) ?_
      have hd1 : (bytesOf (decDigits (r / 10 ^ z))).size = 1 := by rw [size_list]; show (decDigits (r / 10 ^ z)).length = 1; rw [digits_small hq]; rfl
      refine evp (by omega) ?_
      have h := dec_loop z (r % 10 ^ z) (acc ++ bytesOf (decDigits (r / 10 ^ z))) (by omega) (Nat.mod_lt _ hp0) (by rw [ByteArray.size_append]; omega)
      have e : bytesOf ((acc ++ bytesOf (decDigits (r / 10 ^ z))).data.toList ++ restD z (r % 10 ^ z)) = bytesOf (acc.data.toList ++ restD (z + 1) r) := by
        rw [app_list, restD, if_neg c, List.append_assoc]
        rfl
      rw [← e]
      exact h
theorem dec_from (z m : Nat) (hz : z ≤ 8) (hm : m ≤ 4611686018427387904) (sg : ByteArray) (hs : sg.size ≤ 1) : Ev (fun k => spileref03_decimal.j0 k (m : Int) ((10 ^ z : Nat) : Int) sg) (bytesOf (sg.data.toList ++ (decDigits (m / 10 ^ z) ++ (if restD z (m % 10 ^ z) = [] then [] else 46 :: restD z (m % 10 ^ z))))) := by
  have hp := pow_le8 hz
  have hp0 : 0 < 10 ^ z := Nat.pow_pos (by omega)
  have hq : m / 10 ^ z ≤ m := Nat.div_le_self _ _
  have hmod : m % 10 ^ z < 10 ^ z := Nat.mod_lt _ hp0
  refine Ev.step (fun k => spileref03_decimal.j0.eq_2 ..) ?_
  refine evn (by omega) ?_
  rw [tdiv_nat, tmod_nat, w64n (n := m / 10 ^ z) (by omega)]
  have hi : strconv_Itoa.f ((m / 10 ^ z : Nat) : Int) = some (bytesOf (decDigits (m / 10 ^ z))) := itoa_nat (by omega)
  refine evb (evc (fun _ => hi) rfl) ?_
  have hd : (bytesOf (decDigits (m / 10 ^ z))).size ≤ 19 := by rw [size_list]; exact digits_length_le (Nat.lt_of_le_of_lt hq (Nat.lt_of_le_of_lt hm (by decide))) (by decide)
  refine evp (by omega) ?_
  by_cases c : m % 10 ^ z = 0
  · refine evn (by omega) ?_
    refine Ev.step (fun k => spileref03_decimal.j1.eq_2 ..) ?_
    have h := dec_loop z (m % 10 ^ z) (sg ++ bytesOf (decDigits (m / 10 ^ z))) hz hmod (by rw [ByteArray.size_append]; omega)
    have e : bytesOf ((sg ++ bytesOf (decDigits (m / 10 ^ z))).data.toList ++ restD z (m % 10 ^ z)) = bytesOf (sg.data.toList ++ (decDigits (m / 10 ^ z) ++ (if restD z (m % 10 ^ z) = [] then [] else 46 :: restD z (m % 10 ^ z)))) := by
      rw [app_list, c, rest_zero, if_pos rfl, List.append_assoc]
      rfl
    rw [← e]
    exact h
  · refine evp (by omega) ?_
    refine evp (by rw [ByteArray.size_append]; omega) ?_
    refine Ev.step (fun k => spileref03_decimal.j1.eq_2 ..) ?_
    have h := dec_loop z (m % 10 ^ z) ((sg ++ bytesOf (decDigits (m / 10 ^ z))) ++ ⟨#[46]⟩) hz hmod (by rw [ByteArray.size_append, ByteArray.size_append]; show sg.size + _ + 1 + _ ≤ _; omega)
    obtain ⟨x, y, hx, _⟩ := rest_last hmod c
    have hne : restD z (m % 10 ^ z) ≠ [] := by rw [hx]; simp
    have e : bytesOf (((sg ++ bytesOf (decDigits (m / 10 ^ z))) ++ (⟨#[46]⟩ : ByteArray)).data.toList ++ restD z (m % 10 ^ z)) = bytesOf (sg.data.toList ++ (decDigits (m / 10 ^ z) ++ (if restD z (m % 10 ^ z) = [] then [] else 46 :: restD z (m % 10 ^ z)))) := by
      rw [app_list, app_list, if_neg hne, List.append_assoc, List.append_assoc]
      rfl
    rw [← e]
    exact h
theorem dec_ev {a : Int} {z : Nat} (hz : z ≤ 8) (h0 : -4611686018427387904 ≤ a) (h1 : a ≤ 4611686018427387904) : Ev (fun k => spileref03_decimal.f k a ((10 ^ z : Nat) : Int)) (bytesOf (decT (decide (a < 0)) z a.natAbs)) := by
  unfold spileref03_decimal.f
  by_cases c : a < 0
  · refine evp c ?_
    rw [w64 (x := -a) (by omega) (by omega), show -a = ((a.natAbs : Nat) : Int) by omega, decide_eq_true c]
    exact dec_from z a.natAbs hz (by omega) ⟨#[45]⟩ (by decide)
  · refine evn c ?_
    have e : (a.natAbs : Int) = a := by omega
    rw [decide_eq_false c]
    have h := dec_from z a.natAbs hz (by omega) ⟨#[]⟩ (by decide)
    rw [e] at h
    exact h
theorem rprint_ev (K a : Int) {s : ByteArray} (hs : s.size ≤ 1000) : Ev (fun k => spileref03_Print.f k K a s) (printR K a s) := by
  unfold spileref03_Print.f printR
  refine evb (rcheck_ev K a) ?_
  by_cases c : errQ (K, a) = 0
  · rw [if_pos c]
    have hb := err_bounds c
    refine evp c ?_
    refine evb (runit_ev s) ?_
    cases hu : unitAt s.data.toList with
    | none =>
      have e : unitR s = (0, 0, 4) := by unfold unitR; rw [hu]
      rw [e]
      exact evn (by decide) (evr rfl)
    | some p =>
      obtain ⟨kd, z⟩ := p
      rw [unitR_at hu]
      have hsm := unit_small hu
      refine evp rfl ?_
      show Ev _ (if kd = K then (textB a z s, (0 : Int)) else (⟨#[]⟩, 10))
      by_cases ck : kd = K
      · rw [if_pos ck]
        refine evp ck ?_
        have hz : z.toNat ≤ 8 := by have : z ≤ 8 := hsm.2.2; omega
        refine evb (dec_ev hz (by omega) (by omega)) ?_
        have hl : (bytesOf (decT (decide (a < 0)) z.toNat a.natAbs)).size ≤ 1000 := by
          rw [size_list]
          have h16 : a.natAbs < 10 ^ 16 := by
            have : (10 : Nat) ^ 16 = 10000000000000000 := by decide
            omega
          have h1 : (decDigits (a.natAbs / 10 ^ z.toNat)).length ≤ 16 := digits_length_le (Nat.lt_of_le_of_lt (Nat.div_le_self _ _) h16) (by omega)
          have h2 := rest_len z.toNat (a.natAbs % 10 ^ z.toNat) (Nat.mod_lt _ (Nat.pow_pos (by omega)))
          show (decT (decide (a < 0)) z.toNat a.natAbs).length ≤ 1000
          unfold decT
          rw [List.length_append, List.length_append]
          split <;> split <;> simp <;> omega
        refine evp (by omega) (evp (by rw [ByteArray.size_append]; show _ + 1 + _ ≤ _; omega) (evr ?_))
        refine Prod.ext (bytes_ext ?_) rfl
        rw [app_list, app_list]
        show (decT (decide (a < 0)) z.toNat a.natAbs ++ [32]) ++ s.data.toList = decT (decide (a < 0)) z.toNat a.natAbs ++ 32 :: s.data.toList
        simp
      · rw [if_neg ck]
        exact evn ck (evr rfl)
  · rw [if_neg c]
    exact evn c (evr rfl)
def limM (v : Nat) : Int := if v > 1125899906842624 then -1 else (v : Int)
theorem val_loop {W : ByteArray} (hW : W.size ≤ 1000) (hd : W.data.toList.all isDig = true) : ∀ (d i n : Nat), i + d = W.data.toList.length → n ≤ 1125899906842624 → Ev (fun k => spileref03_scaled.l1 k W 1125899906842624 (n : Int) (i : Int)) (limM (valFrom n (W.data.toList.drop i)))
  | 0, i, n, hi, hn => by
    have sW := size_list W
    refine Ev.step (fun k => spileref03_scaled.l1.eq_2 ..) ?_
    rw [List.drop_of_length_le (by omega)]
    refine evn (by omega) (evr ?_)
    show (n : Int) = limM n
    exact (if_neg (by omega)).symm
  | d + 1, i, n, hi, hn => by
    have sW := size_list W
    have hil : i < W.data.toList.length := by omega
    have hb := (isDig_iff _).1 (List.all_eq_true.1 hd _ (List.getElem_mem hil))
    refine Ev.step (fun k => spileref03_scaled.l1.eq_2 ..) ?_
    refine evp (by omega) (evp (by omega) ?_)
    rw [bt_list hil, List.drop_eq_getElem_cons hil]
    generalize W.data.toList[i] = b at hb ⊢
    have e1 : (((b.toNat : Nat) : Int) - 48) % 256 = ((b.toNat - 48 : Nat) : Int) := by omega
    have e2 : wrap64 (wrap64 (10 * (n : Int)) + (((b.toNat : Nat) : Int) - 48) % 256) = ((10 * n + (b.toNat - 48) : Nat) : Int) := by
      rw [e1, w64 (x := 10 * (n : Int)) (by omega) (by omega), w64 (by omega) (by omega)]
      omega
    rw [e2]
    show Ev _ (limM (valFrom (10 * n + (b.toNat - 48)) (W.data.toList.drop (i + 1))))
    by_cases c : ((10 * n + (b.toNat - 48) : Nat) : Int) > 1125899906842624
    · refine evp c (evr ?_)
      have h := valFrom_ge (W.data.toList.drop (i + 1)) (10 * n + (b.toNat - 48))
      have h2 : (10 * n + (b.toNat - 48)) * 1 ≤ (10 * n + (b.toNat - 48)) * 10 ^ (W.data.toList.drop (i + 1)).length := Nat.mul_le_mul_left _ (Nat.pow_pos (by omega))
      exact (if_pos (by omega)).symm
    · refine evn c ?_
      rw [w64 (x := (i : Int) + 1) (by omega) (by omega), show (i : Int) + 1 = ((i + 1 : Nat) : Int) by omega]
      exact val_loop hW hd d (i + 1) (10 * n + (b.toNat - 48)) (by omega) (by omega)
theorem scaled_loop : ∀ (z : Nat) (W P : ByteArray), z ≤ 8 → W.size + z ≤ 1000 → P.size ≤ 1000 → W.data.toList.all isDig = true → P.data.toList.all isDig = true →
    Ev (fun k => spileref03_scaled.l0 k W P ((10 ^ z : Nat) : Int) 1125899906842624) (if z < P.data.toList.length then -1 else limM (valT z W.data.toList P.data.toList))
  | 0, W, P, hz, hW, hP, dW, dP => by
    refine Ev.step (fun k => spileref03_scaled.l0.eq_2 ..) ?_
    refine evn (by decide) ?_
    cases hp : P.data.toList with
    | nil =>
      have e : P.toList = ([] : List UInt8) := by rw [ByteArray.toList_eq, hp]
      refine evp e ?_
      have h := val_loop (by omega) dW W.data.toList.length 0 0 (by omega) (by omega)
      rw [List.drop_zero] at h
      have e2 : valT 0 W.data.toList [] = valFrom 0 W.data.toList := by
        unfold valT
        simp
      show Ev _ (limM (valT 0 W.data.toList []))
      rw [e2]
      exact h
    | cons b r =>
      have e : P.toList ≠ ([] : List UInt8) := by rw [ByteArray.toList_eq, hp]; simp
      exact evn e (evr (if_pos (by simp)).symm)
  | z + 1, W, P, hz, hW, hP, dW, dP => by
    have hp8 := pow_le8 hz
    have hp0 : 0 < 10 ^ z := Nat.pow_pos (by omega)
    have hp1 : 10 ^ (z + 1) = 10 * 10 ^ z := by rw [Nat.pow_succ]; omega
    refine Ev.step (fun k => spileref03_scaled.l0.eq_2 ..) ?_
    refine evp (by omega) ?_
    rw [pow_ten z, w64 (x := ((10 ^ z : Nat) : Int)) (by omega) (by omega)]
    have sP := size_list P
    cases hp : P.data.toList with
    | nil =>
      have e : P.toList = ([] : List UInt8) := by rw [ByteArray.toList_eq, hp]
      refine evp e (evp (by omega) ?_)
      have h := scaled_loop z (W ++ ⟨#[48]⟩) P (by omega) (by rw [ByteArray.size_append]; show W.size + 1 + z ≤ 1000; omega) hP (by rw [app_list, List.all_append, dW]; decide) dP
      rw [hp] at h
      have e2 : valT z (W ++ ⟨#[48]⟩ : ByteArray).data.toList [] = valT (z + 1) W.data.toList [] := by
        unfold valT
        rw [app_list]
        show valFrom 0 ((W.data.toList ++ [48]) ++ ([] ++ List.replicate (z - 0) 48)) = valFrom 0 (W.data.toList ++ ([] ++ List.replicate (z + 1 - 0) 48))
        rw [List.append_assoc, List.nil_append, List.nil_append, Nat.sub_zero, Nat.sub_zero, List.replicate_succ]
        rfl
      rw [e2] at h
      exact h
    | cons b r =>
      have e : P.toList ≠ ([] : List UInt8) := by rw [ByteArray.toList_eq, hp]; simp
      have hs1 : 1 ≤ P.size := by rw [sP, hp]; simp
      rw [hp] at dP
      rw [List.all_cons, Bool.and_eq_true] at dP
      have x1 : (P.extract 0 1).data.toList = [b] := by rw [ext_list, hp]; rfl
      have x2 : (P.extract 1 P.size).data.toList = r := by rw [ext_list, List.take_of_length_le (by rw [← size_list]; exact Nat.le_refl _), hp]; rfl
      have z1 : (P.extract 0 1).size = 1 := by rw [size_list, x1]; rfl
      refine evn e (evp (by decide) (evp (by omega) (evp (by omega) ?_)))
      have h := scaled_loop z (W ++ P.extract 0 1) (P.extract 1 P.size) (by omega) (by rw [ByteArray.size_append]; omega) (by rw [ByteArray.size_extract]; omega) (by rw [app_list, x1, List.all_append, dW, List.all_cons, dP.1]; rfl) (by rw [x2]; exact dP.2)
      rw [x2] at h
      have e2 : valT z (W ++ P.extract 0 1).data.toList r = valT (z + 1) W.data.toList (b :: r) := by
        unfold valT
        rw [app_list, x1, List.append_assoc, List.length_cons, Nat.succ_sub_succ]
        rfl
      rw [e2] at h
      have e3 : (if z < r.length then (-1 : Int) else limM (valT (z + 1) W.data.toList (b :: r))) = if z + 1 < (b :: r).length then -1 else limM (valT (z + 1) W.data.toList (b :: r)) := by
        rw [List.length_cons]
        by_cases q : z < r.length
        · rw [if_pos q, if_pos (by omega)]
        · rw [if_neg q, if_neg (by omega)]
      rw [← e3]
      exact h
theorem split_num {s : ByteArray} : (∀ neg wl pl, numT s.data.toList = some (neg, wl, pl) → splitF s = (neg, bytesOf wl, bytesOf pl, true)) ∧ (numT s.data.toList = none → (splitF s).2.2.2 = false) := by
  have hno := cut1_no 46 (minusCut s.data.toList).2
  have key : (splitF s).2.2.2 = true ↔ numOk s.data.toList := by
    unfold splitF numOk wholeB placesB
    cases c : (cut1 46 (minusCut s.data.toList).2).2.2 with
    | true =>
      rw [if_pos rfl]
      have eb : badPlaces (cut1 46 (minusCut s.data.toList).2).2.1 = true ↔ ¬ ((cut1 46 (minusCut s.data.toList).2).2.1.all isDig = true ∧ (cut1 46 (minusCut s.data.toList).2).2.1 ≠ [] ∧ (cut1 46 (minusCut s.data.toList).2).2.1.getLast? ≠ some 48) := by
        unfold badPlaces
        cases (cut1 46 (minusCut s.data.toList).2).2.1 with
        | nil => simp
        | cons b r =>
          cases h1 : (b :: r).all isDig <;> by_cases h2 : (b :: r).getLast? = some 48 <;> simp [h1, h2]
      by_cases hb : badPlaces (cut1 46 (minusCut s.data.toList).2).2.1 = true
      · rw [if_pos hb]
        constructor
        · intro q; cases q
        · intro q
          exact absurd ⟨q.2.1, (q.2.2.1 rfl).1, (q.2.2.1 rfl).2⟩ (eb.1 hb)
      · rw [if_neg hb]
        have hg := Classical.not_not.1 (fun q => hb (eb.2 q))
        show wok (minusCut s.data.toList).1 (cut1 46 (minusCut s.data.toList).2).1 (cut1 46 (minusCut s.data.toList).2).2.1 = true ↔ _
        unfold wok
        rw [decide_eq_true_eq]
        constructor
        · rintro ⟨q1, q2, q3⟩
          exact ⟨q1, hg.1, fun _ => ⟨hg.2.1, hg.2.2⟩, q3, q2⟩
        · rintro ⟨q1, q2, q3, q4, q5⟩
          exact ⟨q1, q5, q4⟩
    | false =>
      obtain ⟨n1, n2⟩ := hno c
      rw [if_neg (by decide), n1, n2]
      show wok (minusCut s.data.toList).1 (minusCut s.data.toList).2 [] = true ↔ _
      unfold wok
      rw [decide_eq_true_eq]
      constructor
      · rintro ⟨q1, q2, q3⟩
        exact ⟨q1, rfl, (fun q => by cases q), q3, q2⟩
      · rintro ⟨q1, q2, q3, q4, q5⟩
        exact ⟨q1, q5, q4⟩
  refine ⟨fun neg wl pl h => ?_, fun h => ?_⟩
  · unfold numT at h
    split at h
    · rename_i ok
      simp only [Option.some.injEq, Prod.mk.injEq] at h
      obtain ⟨rfl, rfl, rfl⟩ := h
      have h4 := key.2 ok
      unfold splitF wholeB placesB at h4 ⊢
      cases c : (cut1 46 (minusCut s.data.toList).2).2.2 with
      | true =>
        rw [c, if_pos rfl] at h4
        rw [if_pos rfl]
        by_cases hb : badPlaces (cut1 46 (minusCut s.data.toList).2).2.1 = true
        · rw [if_pos hb] at h4
          cases h4
        · rw [if_neg hb] at h4 ⊢
          exact Prod.ext rfl (Prod.ext rfl (Prod.ext rfl h4))
      | false =>
        rw [c, if_neg (by decide)] at h4
        rw [if_neg (by decide)]
        obtain ⟨n1, n2⟩ := hno c
        rw [n1, n2]
        exact Prod.ext rfl (Prod.ext rfl (Prod.ext rfl h4))
    · cases h
  · unfold numT at h
    split at h
    · cases h
    · rename_i ok
      cases q : (splitF s).2.2.2 with
      | false => rfl
      | true => exact absurd (key.1 q) ok
theorem err_two {K a : Int} (hK : 1 ≤ K ∧ K ≤ 7) (h : errQ (K, a) ≠ 0) : errQ (K, a) = 2 := by
  unfold errQ at h ⊢
  have e : ¬ ((K, a).1 < 1 ∨ 7 < (K, a).1) := by show ¬ (K < 1 ∨ 7 < K); omega
  rw [if_neg e] at h ⊢
  split
  · rfl
  · rename_i c
    rw [if_neg c] at h
    exact absurd rfl h
theorem low_high2 {K : Int} (hK : 1 ≤ K ∧ K ≤ 7) : -400 ≤ lowK K ∧ highK K ≤ 1125899906842624 := by
  rcases seven hK with rfl | rfl | rfl | rfl | rfl | rfl | rfl <;> decide
theorem rj0_ev {kd : Int} {z : Nat} (hK : 1 ≤ kd ∧ kd ≤ 7) (hz : z ≤ 8) {neg : Bool} {wl pl : List UInt8} (hd : (wl ++ pl).all isDig = true) (hl : wl.length + pl.length ≤ 20) : Ev (fun k => spileref03_Parse.j0 k kd ((10 ^ z : Nat) : Int) neg (bytesOf wl) (bytesOf pl) (!true)) (parse2R kd z neg wl pl) := by
  rw [List.all_append, Bool.and_eq_true] at hd
  have sW : (bytesOf wl).size = wl.length := by rw [size_list]; rfl
  have sP : (bytesOf pl).size = pl.length := by rw [size_list]; rfl
  refine Ev.step (fun k => spileref03_Parse.j0.eq_2 ..) ?_
  refine evn (by decide) ?_
  have h : Ev (fun k => spileref03_scaled.f k (bytesOf wl) (bytesOf pl) ((10 ^ z : Nat) : Int) 1125899906842624) (if z < pl.length then -1 else limM (valT z wl pl)) := scaled_loop z (bytesOf wl) (bytesOf pl) hz (by omega) (by omega) hd.1 hd.2
  unfold parse2R
  by_cases c1 : z < pl.length
  · rw [if_pos c1] at h ⊢
    refine evb h ?_
    exact evp (by decide) (evr rfl)
  · rw [if_neg c1] at h ⊢
    have hall : (wl ++ (pl ++ List.replicate (z - pl.length) (48 : UInt8))).all isDig = true := by
      rw [List.all_append, List.all_append, hd.1, hd.2, Bool.true_and, Bool.true_and, List.all_replicate]
      split
      · rfl
      · decide
    have hb := low_high2 hK
    have h18 : (10 : Nat) ^ 18 = 1000000000000000000 := by decide
    by_cases c2 : valT z wl pl > 1125899906842624
    · have e : limM (valT z wl pl) = -1 := if_pos c2
      rw [e] at h
      refine evb h (evp (by decide) (evr ?_))
      split
      · rfl
      · have hne : errQ (kd, signed neg (valT z wl pl)) ≠ 0 := by
          intro q
          have := (errQ_zero _).1 q
          have h1 : lowK kd ≤ signed neg (valT z wl pl) := this.2.1
          have h2 : signed neg (valT z wl pl) ≤ highK kd := this.2.2
          unfold Pr.signed at h1 h2
          cases neg with
          | true => rw [if_pos rfl] at h1; omega
          | false => rw [if_neg (by simp)] at h2; omega
        rw [if_neg hne, err_two hK hne]
    · have e : limM (valT z wl pl) = ((valT z wl pl : Nat) : Int) := if_neg c2
      rw [e] at h
      refine evb h (evn (by omega) ?_)
      have c3 : ¬ 18 < (trimLeftS (wl ++ (pl ++ List.replicate (z - pl.length) 48)) [48]).length := by
        intro q
        have h1 := trimL_big _ hall 18 q
        have h2 : valFrom 0 (wl ++ (pl ++ List.replicate (z - pl.length) 48)) = valT z wl pl := rfl
        omega
      rw [if_neg c3]
      have fin : ∀ v : Int, v = signed neg (valT z wl pl) → Ev (fun n => (spileref03_in.f kd v).bind fun t => if t = true then some (kd, v, (0 : Int)) else some (0, 0, 2)) (if errQ (kd, signed neg (valT z wl pl)) = 0 then (kd, signed neg (valT z wl pl), 0) else (0, 0, errQ (kd, signed neg (valT z wl pl)))) := by
        intro v hv
        rw [← hv]
        refine evb (evc (fun _ => in_eq v hK) rfl) ?_
        by_cases q : errQ (kd, v) = 0
        · have h1 := ((errQ_zero (kd, v)).1 q).2
          exact evp (decide_eq_true h1) (evr (if_pos q).symm)
        · have h1 : ¬ (lowK kd ≤ v ∧ v ≤ highK kd) := fun q2 => q ((errQ_zero (kd, v)).2 ⟨hK, q2⟩)
          refine evn (by simpa using h1) (evr ?_)
          rw [if_neg q, err_two hK q]
      cases neg with
      | true =>
        refine evp rfl ?_
        rw [w64 (x := -((valT z wl pl : Nat) : Int)) (by omega) (by omega)]
        exact fin _ rfl
      | false =>
        refine evn (by decide) ?_
        exact fin _ rfl
theorem rparse_ev {s : ByteArray} (hs : s.size ≤ 1000) : Ev (fun k => spileref03_Parse.f k s) (parseR s) := by
  have sl := size_list s
  unfold spileref03_Parse.f parseR
  by_cases c0 : (s.size : Int) > 64
  · rw [if_pos c0]
    exact evp c0 (evr rfl)
  · rw [if_neg c0]
    refine evn c0 ?_
    refine evb (pos_ev hs 32 32 rfl) ?_
    by_cases c : (cut1 32 s.data.toList).2.2 = true
    · obtain ⟨p1, p2, p3, p4⟩ := pos_yes c
      rw [p1]
      have e1 : wrap64 (((cut1 32 s.data.toList).1.length : Int) + 1) = (((cut1 32 s.data.toList).1.length + 1 : Nat) : Int) := by rw [w64 (by omega) (by omega)]; omega
      rw [e1]
      refine evn (by omega) (evp (by omega) (evp (by omega) ?_))
      rw [Int.toNat_natCast, Int.toNat_natCast, p2, p3]
      obtain ⟨nm, hnm⟩ : ∃ nm : ByteArray, nm = ⟨(cut1 32 s.data.toList).2.1.toArray⟩ := ⟨_, rfl⟩
      obtain ⟨hd, hhd⟩ : ∃ hd : ByteArray, hd = ⟨(cut1 32 s.data.toList).1.toArray⟩ := ⟨_, rfl⟩
      have nml : (cut1 32 s.data.toList).2.1 = nm.data.toList := by rw [hnm]
      have hdl : (cut1 32 s.data.toList).1 = hd.data.toList := by rw [hhd]
      rw [← hnm, ← hhd, nml, hdl]
      have hd1 : hd.size ≤ 1000 := by rw [size_list, ← hdl]; omega
      refine evb (runit_ev nm) ?_
      refine evp (by omega) (evp (by rw [← hdl]; omega) ?_)
      have hsf : spileref03_split.f hd = some (splitF hd) := if_pos hd1
      refine evb (evc (fun _ => hsf) rfl) ?_
      obtain ⟨s1, s2⟩ := split_num (s := hd)
      cases hu : unitAt nm.data.toList with
      | none =>
        have e : unitR nm = (0, 0, 4) := by unfold unitR; rw [hu]
        rw [e]
        refine evn (by decide) ?_
        refine Ev.step (fun k => spileref03_Parse.j0.eq_2 ..) ?_
        exact evp rfl (evr rfl)
      | some p =>
        obtain ⟨kd, z⟩ := p
        have hsm := unit_small hu
        rw [unitR_at hu]
        refine evp rfl ?_
        cases hq : numT hd.data.toList with
        | none =>
          rw [s2 hq]
          refine Ev.step (fun k => spileref03_Parse.j0.eq_2 ..) ?_
          exact evp rfl (evr rfl)
        | some q =>
          obtain ⟨neg, wl, pl⟩ := q
          rw [s1 neg wl pl hq]
          obtain ⟨d1, d2⟩ := num_all hq
          have hz : z.toNat ≤ 8 := by have : z ≤ 8 := hsm.2.2; omega
          exact rj0_ev hsm.1 hz d1 d2
    · have e : posI 32 s.data.toList = -1 := if_neg c
      rw [e]
      refine evp (by decide) (evr ?_)
      have n2 := (cut1_no 32 s.data.toList (by simpa using c)).2
      rw [n2, show unitAt [] = none from by decide]
end Go.Proofs.YtmjglehdckgcnaaGreatDoor.Pr
namespace Go.Proofs.YtmjglehdckgcnaaGreatDoor.Pure
open Go Go.RowKit Go.Lib Go.Proofs.YtmjglehdckgcnaaGreatDoorW.PrintWords Go.Proofs.YtmjglehdckgcnaaGreatDoorW.PrintLast Go.Proofs.YtmjglehdckgcnaaGreatDoorW.PrintMore Go.Proofs.YtmjglehdckgcnaaGreatDoor.X Go.Proofs.YtmjglehdckgcnaaGreatDoor.Pr Go.Proofs.YtmjglehdckgcnaaGreatDoor.TX Go.Proofs.YtmjglehdckgcnaaGreatDoor.PL Go.Proofs.YtmjglehdckgcnaaGreatDoor.SQ
theorem UnitTexts : unitTextsPure := by
  intro K a s t hK ha hs ht
  refine Ev.rounds (?_ : Ev (fun k => spilelaw03_UnitTexts.f k K a s t) true)
  unfold spilelaw03_UnitTexts.f
  refine evb (evc (fun _ => rfl) rfl : Ev (fun _ => spilelaw03_awake.f) true) ?_
  refine evp rfl ?_
  by_cases c : (s.size : Int) > 100
  · refine evp c ?_
    refine Ev.step (fun k => spilelaw03_UnitTexts.j0.eq_2 ..) ?_
    exact evp rfl (evr rfl)
  · refine evn c ?_
    refine Ev.step (fun k => spilelaw03_UnitTexts.j0.eq_2 ..) ?_
    by_cases c2 : (t.size : Int) > 100
    · exact evp (decide_eq_true c2) (evr rfl)
    · refine evn (by simpa using c2) ?_
      refine evb (print_ev K a (by omega)) ?_
      refine evb (rprint_ev K a (by omega)) ?_
      refine evb (parse_ev (by omega)) ?_
      refine evb (rparse_ev (by omega)) ?_
      exact evp rfl (evp rfl (evp (by simp) (evr (by simp))))
end Go.Proofs.YtmjglehdckgcnaaGreatDoor.Pure
namespace Go.Proofs.YtmjglehdckgcnaaGreatDoor.X
open Go
variable {H : Type} {enc : TypeId × Value → H}
theorem wrap_shaped {a : Assume} {C : Checked} {os : Os} {f : FuncId} {fn : Func} {s : ChangeSpec} {conds : List PathCond} {apart fresh handsOn again : Bool} {X : World → Array Value → Prop}
    (hX : ∀ (w w' : World) (args : Array Value), w.heap = w'.heap → X w args → X w' args)
    (own : ownKnob C.prog.godebug = none) (started : os.Started) (noInit : C.prog.inits.idxOf? f = none) (hfn : C.prog.funcs[f]? = some fn)
    (witness : ∃ (w : World) (tape : Tape) (i : Input), w.os = os ∧ (w.forCall tape i).Shaped C.prog ∧ i.vars = [] ∧ Input.okWide C.prog (w.forCall tape i) .any w.heap.size f i ∧
      ((s.pre enc C.prog fn conds apart (w.forCall tape i).memory i.args ∧ X (w.forCall tape i).memory i.args) ∧ sizedMet enc C.prog fn (OpenSpec.ofChange s) apart (w.forCall tape i).memory i.args) ∧ a.holds C.prog (lone (Frame.enter C.prog f i.args .normal) [] (w.forCall tape i)))
    (walk : ∀ (W : World) (base : Nat) (args : Array Value) (ds gs : List (DataW H)) (before : List MemPlace),
      (∀ (j : Nat) t v, fn.params[j]? = some t → args[j]? = some v → Value.okWide C.prog W .any base t v) →
      DataW.Whole enc C.prog fn.params.toList s.vars apart W args.toList ds gs before → X W args → W.ShapedOpen C.prog →
      Calls C.prog f args W fun e W' => ∃ v, e = .returned v ∧ s.post enc C.prog fn apart fresh handsOn again W args v W') :
    ReturnsInHanded a C os f .any (fun w args => (s.pre enc C.prog fn conds apart w args ∧ X w args) ∧ sizedMet enc C.prog fn (OpenSpec.ofChange s) apart w args) (s.post enc C.prog fn apart fresh handsOn again) := by
  refine returnsInHanded_of_calls own started noInit witness ?_
  intro w tape i _ hsh _ hok hpre _
  obtain ⟨_, _, _, fn', hfn', _, _, _, _, hval⟩ := hok
  obtain rfl : fn' = fn := Option.some.inj (hfn'.symm.trans hfn)
  obtain ⟨⟨⟨ds, gs, before, hw, _⟩, hx⟩, _⟩ := hpre
  refine (walk (w.forCall tape i) w.heap.size i.args ds gs before hval (DataW.Whole.of_heap (w' := w.forCall tape i) (by rfl) hw) (hX _ _ _ (by rfl) hx) hsh).mono fun e W' ⟨v, he, hp⟩ => ?_
  subst he
  exact ChangeSpec.post_blind hp
end Go.Proofs.YtmjglehdckgcnaaGreatDoor.X
namespace Go.Proofs.YtmjglehdckgcnaaGreatDoor.unitTexts
open Go Go.ChangeShapes Go.WideShapes Go.ChangeAt Go.RowKit
open Go.ChangeMaps (open_string shut_string)
open Go.Proofs.YtmjglehdckgcnaaGreatDoorW.PrintWords Go.Proofs.YtmjglehdckgcnaaGreatDoor.O Go.Proofs.YtmjglehdckgcnaaGreatDoor.Opn Go.Proofs.YtmjglehdckgcnaaGreatDoor.Pr Go.Proofs.YtmjglehdckgcnaaGreatDoor.X
theorem own : ownKnob Tryz.prog.godebug = none := by kernel_rfl
theorem laidOut : laidOutB Tryz.prog = true := by kernel_rfl
abbrev laidL : List (String × DataW Unit) := [("math/bits.deBruijn32tab", Rows.laid_math_bits_deBruijn32tab), ("math/bits.deBruijn64tab", Rows.laid_math_bits_deBruijn64tab), ("internal/strconv.uint64pow10", Rows.laid_internal_strconv_uint64pow10), ("unicode/utf8.acceptRanges", Rows.laid_unicode_utf8_acceptRanges), ("strconv.ErrRange", Rows.laid_strconv_ErrRange), ("strconv.ErrSyntax", Rows.laid_strconv_ErrSyntax), ("unicode/utf8.first", Rows.laid_unicode_utf8_first)]
set_option maxRecDepth 100000 in
theorem lifted (os : Os) (started : os.Started) (H : Type) (enc : TypeId × Value → H) :
    ReturnsInHanded {} Tryz.checked os 3 .any (fun w args => (Rows.unitTextsSpec.pre enc Tryz.prog Tryz.f3 [] false w args ∧ laidMetH Tryz.prog laidL w) ∧ sizedMet enc Tryz.prog Tryz.f3 (OpenSpec.ofChange Rows.unitTextsSpec) false w args)
      (Rows.unitTextsSpec.post enc Tryz.prog Tryz.f3 false true false false) := by
  refine wrap_shaped (C := Tryz.checked) (X := (fun w _ => laidMetH Tryz.prog laidL w)) (fun _ _ _ hh h => h.of_heap hh) own started (by kernel_rfl) Tryz.func3
    (ChangeSpec.witness_shaped (enc := enc) (C := Tryz.checked) (os := os) (X := (fun w _ => laidMetH Tryz.prog laidL w)) false (World.laidAll Tryz.prog os laidL) #[.agg #[.int .i64 0, .int .i64 0], .string ByteArray.empty, .string ByteArray.empty] 8 (World.laidAll_os _ _ _) (World.shaped_of_ZipB (by kernel_rfl) (by kernel_rfl)) (by kernel_rfl) (by kernel_rfl) (by kernel_rfl) (by rw [MakeChecks.laidMetH_plain _ _ _ (by kernel_rfl)]; exact laidMet_laidAll _ (by kernel_rfl) (by kernel_rfl))) ?_
  intro W base args ds gs before hval0 hW hL hsh
  have hval : ∀ (j : Nat) t v, Tryz.f3.params[j]? = some t → args[j]? = some v → Value.okWide Tryz.prog W .any base t v := hval0
  have hW' := hW
  obtain ⟨p, q, hA0, hV, rfl, hfz, hnd⟩ := hW
  have hA : DataW.TrodAll enc Tryz.prog W 0 (fun _ => true) true Tryz.f3.params.toList args.toList ds p := hA0
  rw [Tryz.params3] at hA hval
  obtain ⟨v0, vs0, d0, ds0, p0, q0, hargs, rfl, rfl, h0, r0⟩ := trodAll_cons hA
  obtain ⟨v1, vs1, d1, ds1, p1, q1, rfl, rfl, rfl, h1, r1⟩ := trodAll_cons r0
  obtain ⟨v2, vs2, d2, ds2, p2, q2, rfl, rfl, rfl, h2, r2⟩ := trodAll_cons r1
  obtain ⟨rfl, rfl, rfl⟩ := trodAll_nil r2
  obtain rfl : args = #[v0, v1, v2] := by cases args; simp_all
  obtain ⟨rfl, rfl⟩ := trodVars_none hV
  obtain ⟨cs0, rfl, _⟩ := okWide_struct Tryz.underlying23 (hval 0 23 v0 rfl rfl)
  have k0 := h0
  have lt0 : ∀ x ∈ p0, x.block < W.heap.size := by obtain ⟨m, hm⟩ := k0; exact DataW.trod_lt m _ _ _ hm
  obtain ⟨x0, K0, ok0⟩ : ∃ x, k23.K W x cs0.toList ∧ ok23 x := by
    obtain ⟨fuel, hf⟩ := h0
    exact opens23.2 _ _ _ _ _ _ _ _ _ hf
  have e0 := k23_open K0
  obtain rfl : cs0 = #[.int .i64 (x0.f0), .int .i64 (x0.f1)] := by cases cs0; simpa using e0
  obtain ⟨a1, rfl, rfl, rfl, y1⟩ := open_string Tryz.underlying9 (hval 1 9 v1 rfl rfl) h1
  obtain ⟨a2, rfl, rfl, rfl, y2⟩ := open_string Tryz.underlying9 (hval 2 9 v2 rfl rfl) h2
  clear hA0 hval0
  obtain ⟨k, hp⟩ := Pure.UnitTexts (x0.f0) (x0.f1) a1 a2 ok0.1 ok0.2 y1 y2
  have hG : GI W := GI.of_laid laidL (by simp [laidL]) (by simp [laidL]) (by simp [laidL]) hL hsh
  refine (spilelaw03_UnitTexts.calls k (x0.f0) (x0.f1) a1 a2 true W  hG rfl hp).mono fun e W' ⟨he, bel⟩ => ?_
  subst he
  exact ⟨_, rfl, _, _, _, [], _, [], hW', trodAll_mk1 (shut_bool Tryz.underlying4 _), (trodAll_cons_mk (Below.trod laidOut (by kernel_rfl) (of_decide_eq_true (by kernel_rfl)) k0 bel lt0) (trodAll_cons_mk (shut_string Tryz.underlying9 y1) (trodAll_cons_mk (shut_string Tryz.underlying9 y2) trodAll_mk0))), rfl, bel.frame _, fun h => by cases h⟩
theorem holds : Rows.UnitTextsSaid :=
  OpenClaim.holds_of_wide 3 Tryz.f3 rfl rfl rfl rfl rfl rfl rfl ⟨rfl, rfl, rfl, rfl, rfl⟩ rfl rfl rfl rfl rfl (by kernel_rfl) Tryz.func3 (by kernel_rfl)
    (of_decide_eq_true (by kernel_rfl)) (by unfold Func.isWrapper; first | (rw [if_pos (by decide +kernel)]; kernel_rfl) | (rw [if_neg (by decide +kernel)]; exact ⟨rfl, rfl⟩))
    (fun os started H enc _ => lifted os started H enc)
theorem card : Rows.UnitTextsCardSaid :=
  Claim7.holds_tied_plain_at .later [] [.data, .data, .data, .data, .sentinel, .sentinel, .pinned] true (true, "8df6e1ded1657b97b5e9154a1d8779e020c5cf3963d15ec6a659e8be19cace08") true
    holds (fun _ h => by cases h) (by kernel_rfl) (fun _ h => by cases h) unitTexts_row_tie rfl ⟨rfl, rfl⟩ (by kernel_rfl) rfl
    (fun f fn hf hfn => by
      obtain rfl : f = 3 := Option.some.inj ((show Tryz.prog.funcNamed "spile/spilelaw03.UnitTexts" = some 3 by kernel_rfl).symm.trans hf) |>.symm
      obtain rfl : fn = Tryz.f3 := (Option.some.inj (Tryz.func3.symm.trans hfn)).symm
      exact ⟨by kernel_rfl, fun j t ht => by
        rw [Tryz.params3] at ht
        have hm : t ∈ [23, 9, 9] := by simpa using Array.mem_of_getElem? ht
        have hall : ([23, 9, 9].all fun u => !Tryz.prog.wantsStandIn u) = true := by kernel_rfl
        exact (show Tryz.prog.wantsStandIn t = false by simpa using List.all_eq_true.1 hall t hm)⟩)
    (by kernel_rfl)
end Go.Proofs.YtmjglehdckgcnaaGreatDoor.unitTexts
namespace Go.Proofs.YtmjglehdckgcnaaGreatDoor
/-- The card, under a short name, for the claim. -/
theorem unitTexts_holds : Rows.UnitTextsCardSaid := unitTexts.card
#print axioms unitTexts_holds
end Go.Proofs.YtmjglehdckgcnaaGreatDoor
