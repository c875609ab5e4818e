/-
A part of what these laws rest on: contracts of the functions that they reach, and plain lemmas.
-/
import Derived.Lib.OthersKept
import Derived.Laws.RangeAny
import Derived.Test.YtmjglehdckgcnaaGreatDoorUnitTextsB
set_option linter.unusedVariables false
set_option linter.unusedSimpArgs false
namespace Go.Proofs.YtmjglehdckgcnaaGreatDoor.TX
open Go Go.Lib
/-- A number over a power of ten, as text. -/
def decT (neg : Bool) (z m : Nat) : List UInt8 :=
  (if neg = true then [45] else []) ++ (decDigits (m / 10 ^ z) ++ (if restD z (m % 10 ^ z) = [] then [] else 46 :: restD z (m % 10 ^ z)))
def minusCut (s : List UInt8) : Bool × List UInt8 := if s.head? = some 45 then (true, s.tail) else (false, s)
def numOk (s : List UInt8) : Prop :=
  Canon (cut1 46 (minusCut s).2).1 ∧ (cut1 46 (minusCut s).2).2.1.all isDig = true
    ∧ ((cut1 46 (minusCut s).2).2.2 = true → (cut1 46 (minusCut s).2).2.1 ≠ [] ∧ (cut1 46 (minusCut s).2).2.1.getLast? ≠ some 48)
    ∧ ¬ ((minusCut s).1 = true ∧ (cut1 46 (minusCut s).2).1 = [48] ∧ (cut1 46 (minusCut s).2).2.1 = [])
    ∧ (cut1 46 (minusCut s).2).1.length + (cut1 46 (minusCut s).2).2.1.length ≤ 20
instance (s : List UInt8) : Decidable (numOk s) := by unfold numOk; infer_instance
/-- Whether it is negative, the digits ahead of the point and those behind it; none if it has another form. -/
def numT (s : List UInt8) : Option (Bool × List UInt8 × List UInt8) :=
  if numOk s then some ((minusCut s).1, (cut1 46 (minusCut s).2).1, (cut1 46 (minusCut s).2).2.1) else none
/-- What the digits are worth, in the least unit. -/
def valT (z : Nat) (w p : List UInt8) : Nat := valFrom 0 (w ++ (p ++ List.replicate (z - p.length) 48))
theorem last_trim {p : List UInt8} (h : p = [] ∨ p.getLast? ≠ some 48) : trimZ p = p := by
  by_cases e : p = []
  · subst e; rfl
  · have h : p.getLast? ≠ some 48 := by
      rcases h with h | h
      · exact absurd h e
      · exact h
    obtain ⟨a, b, rfl⟩ : ∃ a b, p = a ++ [b] := ⟨_, _, (List.dropLast_concat_getLast e).symm⟩
    exact trimZ_last a b (fun c => h (by rw [List.getLast?_concat, c]))
/-- What is read is printed again. -/
theorem decT_numT {neg : Bool} {s w p : List UInt8} {z : Nat} (h : numT s = some (neg, w, p)) (hp : p.length ≤ z) : decT neg z (valT z w p) = s := by
  unfold numT at h
  split at h
  · rename_i ok
    have h := Option.some.inj h
    injection h with h1 h
    injection h with h2 h3
    unfold numOk at ok
    rw [h2, h3] at ok
    obtain ⟨k1, k2, k3, k4, k5⟩ := ok
    have hz : (p ++ List.replicate (z - p.length) 48).length = z := by rw [List.length_append, List.length_replicate]; omega
    have hd : (p ++ List.replicate (z - p.length) (48 : UInt8)).all isDig = true := by
      rw [List.all_append, k2, Bool.true_and, List.all_replicate]
      split
      · rfl
      · decide
    have hlt : valFrom 0 (p ++ List.replicate (z - p.length) 48) < 10 ^ z := by
      have := valFrom_lt _ 0 hd
      rw [hz] at this
      omega
    have e1 : valT z w p = valFrom 0 w * 10 ^ z + valFrom 0 (p ++ List.replicate (z - p.length) 48) := by
      unfold valT
      rw [val_app, hz]
    have hpos : 0 < 10 ^ z := Nat.pow_pos (by omega)
    have e2 : valT z w p / 10 ^ z = valFrom 0 w := by
      rw [e1, Nat.mul_comm, Nat.mul_add_div hpos, Nat.div_eq_of_lt hlt, Nat.add_zero]
    have e3 : valT z w p % 10 ^ z = valFrom 0 (p ++ List.replicate (z - p.length) 48) := by
      rw [e1, Nat.mul_comm, Nat.mul_add_mod, Nat.mod_eq_of_lt hlt]
    have hpt : p = [] ∨ p.getLast? ≠ some 48 := by
      cases c : (cut1 46 (minusCut s).2).2.2 with
      | true => exact Or.inr (k3 c).2
      | false => exact Or.inl (by rw [← h3]; exact (cut1_no 46 _ c).2)
    have e4 : restD z (valT z w p % 10 ^ z) = p := by
      rw [e3, ← rest_eq z _ hlt, fixed_of z _ hz hd, trimZ_add, last_trim hpt]
    have e5 : decDigits (valT z w p / 10 ^ z) = w := by
      rw [e2]
      exact canon_digits _ w rfl k1
    unfold decT
    rw [e4, e5]
    have e6 : w ++ (if p = [] then [] else 46 :: p) = (minusCut s).2 := by
      cases c : (cut1 46 (minusCut s).2).2.2 with
      | true => rw [if_neg (k3 c).1, cut1_sum 46 _ c, h2, h3]
      | false =>
        have := cut1_no 46 _ c
        rw [h2, h3] at this
        rw [if_pos this.2, List.append_nil, this.1]
    rw [e6, ← h1]
    unfold minusCut
    by_cases c : s.head? = some 45
    · rw [if_pos c, if_pos rfl]
      cases s with
      | nil => cases c
      | cons b r => rw [List.head?_cons] at c; rw [Option.some.inj c]; rfl
    · rw [if_neg c, if_neg (by simp)]; rfl
  · cases h
end Go.Proofs.YtmjglehdckgcnaaGreatDoor.TX
namespace Go.Proofs.YtmjglehdckgcnaaGreatDoor.TX
open Go Go.Lib
theorem dropW_nil (f : UInt8 → Bool) : ∀ l : List UInt8, l.dropWhile f = [] ↔ ∀ x, x ∈ l → f x = true
  | [] => by simp
  | b :: r => by
    rw [List.dropWhile_cons]
    by_cases c : f b = true
    · rw [if_pos c, dropW_nil f r]
      simp [c]
    · rw [if_neg c]
      simp [c]
theorem trimS_nil (l : List UInt8) : trimS l [48] = [] ↔ ∀ b, b ∈ l → b = 48 := by
  unfold trimS trimLeftS
  rw [dropW_nil]
  show (∀ x, x ∈ trimZ l → List.contains [48] x = true) ↔ _
  constructor
  · intro h b hb
    obtain ⟨n, hn⟩ := trimZ_parts l
    rw [hn] at hb
    rcases List.mem_append.1 hb with hb | hb
    · simpa using h b hb
    · exact (List.mem_replicate.1 hb).2
  · intro h x hx
    obtain ⟨n, hn⟩ := trimZ_parts l
    have := h x (by rw [hn]; exact List.mem_append_left _ hx)
    simpa using this
def numBad (c : Bool) (w p : List UInt8) (pt : Bool) : Prop :=
  w = [] ∨ (1 < w.length ∧ w.head? = some 48) ∨ (pt = true ∧ (p = [] ∨ p.getLast? = some 48)) ∨ (c = true ∧ trimS (w ++ p) [48] = []) ∨ 20 < (w ++ p).length
instance (c : Bool) (w p : List UInt8) (pt : Bool) : Decidable (numBad c w p pt) := by unfold numBad; infer_instance
theorem numOk_iff (s : List UInt8) : numOk s ↔ ((cut1 46 (minusCut s).2).1 ++ (cut1 46 (minusCut s).2).2.1).all isDig = true ∧ ¬ numBad (minusCut s).1 (cut1 46 (minusCut s).2).1 (cut1 46 (minusCut s).2).2.1 (cut1 46 (minusCut s).2).2.2 := by
  have hno := cut1_no 46 (minusCut s).2
  unfold numOk numBad
  generalize (minusCut s).1 = c
  generalize (cut1 46 (minusCut s).2).2.2 = pt at *
  generalize (cut1 46 (minusCut s).2).2.1 = p at *
  generalize (cut1 46 (minusCut s).2).1 = w at *
  have hne : p ≠ [] → pt = true := by
    intro h
    cases pt with
    | true => rfl
    | false => exact absurd (hno rfl).2 h
  have hdig : (w ++ p).all isDig = true ↔ w.all isDig = true ∧ p.all isDig = true := by rw [List.all_append, Bool.and_eq_true]
  rw [hdig, List.length_append, trimS_nil]
  unfold Canon
  have hw : 1 ≤ w.length ↔ w ≠ [] := by
    cases w with
    | nil => simp
    | cons b r => simp
  constructor
  · rintro ⟨⟨h1, h2, h3⟩, h4, h5, h6, h7⟩
    refine ⟨⟨h3, h4⟩, ?_⟩
    rintro (q | q | ⟨q1, q2⟩ | ⟨q1, q2⟩ | q)
    · exact hw.1 h1 q
    · exact h2 q
    · rcases q2 with q2 | q2
      · exact (h5 q1).1 q2
      · exact (h5 q1).2 q2
    · have hp : p = [] := by
        by_cases e : p = []
        · exact e
        · exfalso
          have k := (h5 (hne e)).2
          apply k
          rw [List.getLast?_eq_some_getLast e, q2 _ (List.mem_append_right _ (List.getLast_mem e))]
      subst hp
      refine h6 ⟨q1, ?_, rfl⟩
      cases w with
      | nil => simp at h1
      | cons b r =>
        have hb : b = 48 := q2 b (by simp)
        subst hb
        cases r with
        | nil => rfl
        | cons d r => exact absurd ⟨by simp, rfl⟩ h2
    · omega
  · rintro ⟨⟨h3, h4⟩, h⟩
    refine ⟨⟨hw.2 fun q => h (Or.inl q), fun q => h (Or.inr (Or.inl q)), h3⟩, h4, fun q => ⟨fun q2 => h (Or.inr (Or.inr (Or.inl ⟨q, Or.inl q2⟩))), fun q2 => h (Or.inr (Or.inr (Or.inl ⟨q, Or.inr q2⟩)))⟩, ?_, ?_⟩
    · rintro ⟨q1, q2, q3⟩
      subst q2 q3
      exact h (Or.inr (Or.inr (Or.inr (Or.inl ⟨q1, by simp⟩))))
    · have := fun q => h (Or.inr (Or.inr (Or.inr (Or.inr q))))
      omega
end Go.Proofs.YtmjglehdckgcnaaGreatDoor.TX
namespace Go.Proofs.YtmjglehdckgcnaaGreatDoor.TX
open Go Go.Lib
theorem val_zero (r : List UInt8) : valFrom 0 (48 :: r) = valFrom 0 r := rfl
theorem trimL_cons (b : UInt8) (r : List UInt8) : trimLeftS (b :: r) [48] = if b = 48 then trimLeftS r [48] else b :: r := by
  unfold trimLeftS
  rw [List.dropWhile_cons]
  by_cases c : b = 48
  · rw [if_pos (by simp [c]), if_pos c]
  · rw [if_neg (by simp [c]), if_neg c]
theorem trimL_val : ∀ l : List UInt8, valFrom 0 (trimLeftS l [48]) = valFrom 0 l
  | [] => rfl
  | b :: r => by
    rw [trimL_cons]
    split
    · rename_i c
      rw [trimL_val r, c, val_zero]
    · rfl
theorem trimL_all : ∀ l : List UInt8, l.all isDig = true → (trimLeftS l [48]).all isDig = true
  | [], _ => rfl
  | b :: r, h => by
    rw [trimL_cons]
    split
    · rw [List.all_cons, Bool.and_eq_true] at h
      exact trimL_all r h.2
    · exact h
theorem trimL_big : ∀ l : List UInt8, l.all isDig = true → ∀ n, n < (trimLeftS l [48]).length → 10 ^ n ≤ valFrom 0 l
  | [], _, n, h => by cases h
  | b :: r, hd, n, h => by
    rw [List.all_cons, Bool.and_eq_true] at hd
    rw [trimL_cons] at h
    split at h
    · rename_i c
      rw [c, val_zero]
      exact trimL_big r hd.2 n h
    · rename_i c
      have hb := (isDig_iff b).1 hd.1
      have h2 := valFrom_ge r (10 * 0 + (b.toNat - 48))
      have hne : b.toNat ≠ 48 := by
        intro e
        apply c
        rw [← UInt8.toNat_inj]
        exact e
      have h3 : 10 ^ n ≤ 10 ^ r.length := Nat.pow_le_pow_right (by omega) (by rw [List.length_cons] at h; omega)
      have h4 : 10 ^ r.length ≤ (10 * 0 + (b.toNat - 48)) * 10 ^ r.length := Nat.le_mul_of_pos_left _ (by omega)
      exact Nat.le_trans h3 (Nat.le_trans h4 h2)
theorem atoi_zero {d : List UInt8} (h : d.all isDig = true) (hl : d.length ≤ 18) : atoiAll (48 :: d) = .ok ((valFrom 0 d : Nat) : Int) := by
  have hd : (48 :: d : List UInt8).all isDig = true := by rw [List.all_cons, h]; rfl
  have hv := valFrom_lt d 0 h
  have hp : (0 + 1) * 10 ^ d.length ≤ 10 ^ 18 := by
    rw [Nat.zero_add, Nat.one_mul]; exact Nat.pow_le_pow_right (by decide) hl
  have hq := parse_ok (48 :: d) 0 hd (by
    rw [List.length_cons, Nat.pow_succ]
    omega)
  rw [val_zero] at hq
  unfold atoiAll
  simp only []
  rw [if_neg (by decide : ¬ ((48 : UInt8).toNat = 43 ∨ (48 : UInt8).toNat = 45))]
  have e : parseMag (48 :: d) = .ok (valFrom 0 d) := by unfold parseMag; rw [if_neg (by simp)]; exact hq
  rw [e]
  simp only []
  have h45 : ¬ (48 : UInt8).toNat = 45 := by decide
  rw [if_neg (by omega), if_neg (fun q => h45 q.1), if_neg h45]
/-- The digits that are printed, cut at the point. -/
theorem pad_cut (z m : Nat) (ds : List UInt8) (h : ds = List.replicate (z + 1 - (decDigits m).length) 48 ++ decDigits m) :
    z < ds.length ∧ ds.take (ds.length - z) = decDigits (m / 10 ^ z) ∧ trimRightS (ds.drop (ds.length - z)) [48] = restD z (m % 10 ^ z) := by
  rw [pad_fixed] at h
  have hl : ds.length = (decDigits (m / 10 ^ z)).length + z := by rw [h, List.length_append, fixed_len]
  have h1 := digits_len (m / 10 ^ z)
  refine ⟨by omega, ?_, ?_⟩
  · rw [hl, h, Nat.add_sub_cancel]
    exact List.take_left
  · rw [hl, h, Nat.add_sub_cancel, List.drop_left, ← fixed_mod]
    exact rest_eq z _ (Nat.mod_lt _ (Nat.pow_pos (by omega)))
end Go.Proofs.YtmjglehdckgcnaaGreatDoor.TX
namespace Go.Proofs.YtmjglehdckgcnaaGreatDoor.Pr
open Go Go.RowKit Go.Lib Go.Proofs.YtmjglehdckgcnaaGreatDoorW.PrintWords Go.Proofs.YtmjglehdckgcnaaGreatDoorW.PrintLast Go.Proofs.YtmjglehdckgcnaaGreatDoorW.PrintMore Go.Proofs.YtmjglehdckgcnaaGreatDoor.X Go.Proofs.YtmjglehdckgcnaaGreatDoor.TX
theorem results_tmp4 {fn : Func} {t u v x : Tmp} (h : fn.results = #[.tmp t, .tmp u, .tmp v, .tmp x]) (tmps : Array Value) (P : Program) (w : World) :
    (results fn tmps).run P w = .ok (.tuple #[tmps.getD t undef, tmps.getD u undef, tmps.getD v undef, tmps.getD x undef]) w := by
  simp [results, h]
theorem bytes_ext {a b : ByteArray} (h : a.data.toList = b.data.toList) : a = b := ByteArray.ext (Array.toList_inj.1 h)
theorem size_list (s : ByteArray) : s.size = s.data.toList.length := by simp
theorem ext_list (s : ByteArray) (i j : Nat) : (s.extract i j).data.toList = (s.data.toList.take j).drop i := by
  simp [List.drop_take]
theorem minus_f (s : ByteArray) (hs : s.size ≤ 1000) : strings_CutPrefix.f s ⟨#[45]⟩ = some (⟨(minusCut s.data.toList).2.toArray⟩, (minusCut s.data.toList).1) := by
  have e1 : (⟨#[45]⟩ : ByteArray).size = 1 := rfl
  have e2 : ((1 : Nat) : Int).toNat = 1 := rfl
  have hz : (⟨#[45]⟩ : ByteArray).toList = [45] := by rw [ByteArray.toList_eq]
  unfold strings_CutPrefix.f stringslite_CutPrefix.f stringslite_HasPrefix.f minusCut
  rw [e1, e2, hz]
  cases hb : s.data.toList with
  | nil =>
    have h0 : s.size = 0 := by rw [size_list, hb]; rfl
    have es : s = ⟨#[]⟩ := bytes_ext hb
    rw [if_neg (by rw [h0]; decide), es]
    rfl
  | cons b r =>
    have h1 : s.size = r.length + 1 := by rw [size_list, hb]; rfl
    have c : (s.size : Int) ≥ ((1 : Nat) : Int) := by rw [h1]; omega
    have hx : (s.extract 0 1).toList = [b] := by
      rw [ByteArray.toList_eq, ext_list, hb]
      rfl
    have hy : s.extract 1 s.size = ⟨r.toArray⟩ := by
      apply bytes_ext
      rw [ext_list, hb, h1]
      simp
    rw [if_pos c, if_pos (by decide), if_pos c, hx, hy]
    by_cases d : b = 45
    · subst d
      rw [if_pos (show (45 :: r : List UInt8).head? = some 45 from rfl)]
      show (if (([45] : List UInt8) == [45]) = true then (if 0 ≤ ((1 : Nat) : Int) then (if ((1 : Nat) : Int) ≤ (s.size : Int) then some (⟨r.toArray⟩, true) else none) else none) else some (s, false) : Option (ByteArray × Bool)).bind _ = _
      rw [if_pos (by decide), if_pos (by decide), if_pos c]
      rfl
    · rw [if_neg (fun q : (b :: r : List UInt8).head? = some 45 => d (Option.some.inj q))]
      show (if (([b] : List UInt8) == [45]) = true then (if 0 ≤ ((1 : Nat) : Int) then (if ((1 : Nat) : Int) ≤ (s.size : Int) then some (⟨r.toArray⟩, true) else none) else none) else some (s, false) : Option (ByteArray × Bool)).bind _ = _
      rw [if_neg (fun q => d (by simpa using q))]
      rw [show s = ⟨(b :: r).toArray⟩ from bytes_ext (by rw [hb])]
      rfl
theorem cut_f (s : ByteArray) (c : UInt8) (hs : s.size ≤ 1000) : strings_Cut.f s ⟨#[c]⟩ = some (⟨(cut1 c s.data.toList).1.toArray⟩, ⟨(cut1 c s.data.toList).2.1.toArray⟩, (cut1 c s.data.toList).2.2) := by
  unfold strings_Cut.f
  rw [if_pos (by omega)]
  have e : Lib.cut s.data.toList (⟨#[c]⟩ : ByteArray).data.toList = cut1 c s.data.toList := cut_eq c s.data.toList
  rw [e]
def badB (c : Bool) (w p : ByteArray) (pt : Bool) : Bool :=
  (w.toList.isEmpty || (decide ((w.size : Int) > 1) && decide (w.data.toList.head? = some 48))) || (pt && (p.toList.isEmpty || hasSuffix p.data.toList [48])) || (c && (trimS (w.data.toList ++ p.data.toList) [48]).isEmpty) || decide (((w ++ p).size : Int) > 20)
/-- The whole of what is behind the sign, the digits ahead of the point, those behind it, whether there is a point. -/
def wholeB (s : ByteArray) : ByteArray := ⟨(cut1 46 (minusCut s.data.toList).2).1.toArray⟩
def placesB (s : ByteArray) : ByteArray := ⟨(cut1 46 (minusCut s.data.toList).2).2.1.toArray⟩
def unit_number.f (s : ByteArray) : Option (ByteArray × Int × Bool × Bool) :=
  if s.size ≤ 1000 then (if (wholeB s ++ placesB s).data.toList.all isDig = true then some (wholeB s ++ placesB s, ((placesB s).size : Int), (minusCut s.data.toList).1, !badB (minusCut s.data.toList).1 (wholeB s) (placesB s) (cut1 46 (minusCut s.data.toList).2).2.2) else some (⟨#[]⟩, 0, false, false)) else none
theorem cut_len (c : UInt8) (s : List UInt8) : (cut1 c s).1.length + (cut1 c s).2.1.length ≤ s.length := by
  cases h : (cut1 c s).2.2 with
  | false =>
    have := cut1_no c s h
    rw [this.1, this.2]
    simp
  | true =>
    have e := congrArg List.length (cut1_sum c s h)
    rw [List.length_append, List.length_cons] at e
    omega
theorem minus_len (s : List UInt8) : (minusCut s).2.length ≤ s.length := by
  unfold minusCut
  split
  · show s.tail.length ≤ _
    simp
  · exact Nat.le_refl _
theorem app_list (a b : ByteArray) : (a ++ b).data.toList = a.data.toList ++ b.data.toList := by simp
theorem suffix_calls {p : ByteArray} (hp : p.size ≤ 1000) {b : Bool} (h : hasSuffix p.data.toList [48] = b) (w : World) : Calls Tryz.prog 48 #[.string p, .string ⟨#[48]⟩] w fun e w' => e = .returned (.bool b) ∧ w' = w := by
  have := Tryz.strings_HasSuffix p ⟨#[48]⟩ w (by omega)
  rw [show Lib.hasSuffix p.data.toList (⟨#[48]⟩ : ByteArray).data.toList = b from h] at this
  exact this
theorem trim_f {a : ByteArray} (h : a.size ≤ 1000) : strings_Trim.f a ⟨#[48]⟩ = some ⟨(trimS a.data.toList [48]).toArray⟩ := by
  unfold strings_Trim.f
  rw [if_pos ⟨by omega, by decide, by decide⟩]
theorem empty_list (s : ByteArray) : s.toList.isEmpty = s.data.toList.isEmpty := by rw [ByteArray.toList_eq]
theorem head_at {s : ByteArray} (h : 0 < s.size) : (s.data.toList.head? = some 48) = ((((s[0]'h).toNat : Nat) : Int) = 48) := by
  have e : s.data.toList.head? = some (s[0]'h) := by
    rw [List.head?_eq_getElem?]
    have h' : 0 < s.data.toList.length := by rw [← size_list]; exact h
    rw [List.getElem?_eq_getElem h']
    rfl
  rw [e]
  apply propext
  constructor
  · intro q
    rw [Option.some.inj q]
    rfl
  · intro q
    exact congrArg some (UInt8.toNat_inj.1 (by have : (48 : UInt8).toNat = 48 := rfl; omega))
set_option maxHeartbeats 8000000 in
set_option maxRecDepth 100000 in
theorem unit_number.calls (s : ByteArray) (r1 : ByteArray) (r2 : Int) (r3 r4 : Bool) (w : World) (hG : GI w) (h : unit_number.f s = some (r1, r2, r3, r4)) :
    Calls Tryz.prog 21 #[.string s] w fun e w' => e = .returned (.tuple #[.string r1, .int .i64 r2, .bool r3, .bool r4]) ∧ Below w.heap.size w w' := by
  unfold unit_number.f at h
  split at h
  · rename_i hs
    have hcp := minus_f s hs
    have hsz2 : (⟨(minusCut s.data.toList).2.toArray⟩ : ByteArray).size ≤ 1000 := by
      rw [size_list]
      have := minus_len s.data.toList
      have := size_list s
      show (minusCut s.data.toList).2.length ≤ 1000
      omega
    have hct : strings_Cut.f ⟨(minusCut s.data.toList).2.toArray⟩ ⟨#[46]⟩ = some (wholeB s, placesB s, (cut1 46 (minusCut s.data.toList).2).2.2) := cut_f _ 46 hsz2
    have hsum : (wholeB s).size + (placesB s).size ≤ 1000 := by
      rw [size_list, size_list]
      have := cut_len 46 (minusCut s.data.toList).2
      have := minus_len s.data.toList
      have := size_list s
      show (cut1 46 (minusCut s.data.toList).2).1.length + (cut1 46 (minusCut s.data.toList).2).2.1.length ≤ 1000
      omega
    generalize wholeB s = wh at h hct hsum
    generalize placesB s = pl at h hct hsum
    generalize (cut1 46 (minusCut s.data.toList).2).2.2 = pt at h hct
    generalize (minusCut s.data.toList).1 = mi at h hcp
    generalize (⟨(minusCut s.data.toList).2.toArray⟩ : ByteArray) = s2 at hcp hct
    obtain ⟨al, hal⟩ : ∃ al, wh ++ pl = al := ⟨_, rfl⟩
    have ha1 : ∀ w, (Op.stringOp .add wh pl).run Tryz.prog w = .ok (.string al) w := fun w => hal ▸ run_string_add_sum _ _ _ (by omega)
    rw [hal] at h
    have HAL := Aside0.mk hal
    clear hal
    have hal : al.size ≤ 1000 := by rw [← HAL.out, ByteArray.size_append]; exact hsum
    have hpl : pl.size ≤ 1000 := by omega
    have HG := Aside0.mk hG
    clear hG
    go_enter Tryz.func21, Tryz.ntmps21
    go_wp2_with (first
      | (go_at_call 47; refine (strings_CutPrefix.calls _ _ _ _ _ hcp).mono ?_; rintro e w1 ⟨rfl, hd1⟩; have hb1 := hd1.below; have HG1 := Aside0.mk (GI.below HG.out hb1))
      | (go_at_call 20; refine (strings_Cut.calls _ _ _ _ _ _ HG1.out hct).mono ?_; rintro e w2 ⟨rfl, hb2⟩))
    have hB2 : Below w.heap.size w w2 := below_step hb1 hb2
    have hB3 : Below w.heap.size w (w2.iter al 0) := hB2.alloc hB2.size _
    go_loopw [12] (fun _ wr => ∃ pos : Nat, wr.heap[w2.heap.size]? = some (.stringIter al pos) ∧ pos ≤ al.size ∧ (al.data.toList.take pos).all isDig = true ∧ Below w.heap.size w wr) (fun _ wr => al.size - wr.iterPos w2.heap.size)
    case atStart => exact ⟨0, World.iter_heap w2 al 0, Nat.zero_le _, rfl, hB3⟩
    case round =>
      obtain ⟨pos, hit, hle, hdg, hB⟩ := hrel
      by_cases hp : pos < al.size
      · have hnx : ∀ ty, (Instr.next (.pointer (some ⟨w2.heap.size, 0, none⟩)) true ty).run Tryz.prog wr = _ := fun ty => Lib.run_next_any_at wr w2.heap.size al pos ty hit hp
        have hit2 := Lib.iterAt_heap wr w2.heap.size al pos (pos + (Utf8.decode al pos).2) hit
        have hbw2 := Lib.below_iterAt hB (k := w2.heap.size) hB2.size al (pos + (Utf8.decode al pos).2)
        by_cases hd : isDig (al[pos]'hp) = true
        · have hr := (isDig_iff _).1 hd
          have hdec := decode_ascii al pos hp (by omega)
          rw [hdec] at hnx hit2 hbw2
          have t1 : decide ((((al[pos]'hp).toNat : Nat) : Int) < 48) = false := decide_eq_false (by omega)
          have t2 : decide ((((al[pos]'hp).toNat : Nat) : Int) > 57) = false := decide_eq_false (by omega)
          go_wp2
          go_roundw
          case rel =>
            refine ⟨pos + 1, hit2, hp, ?_, hbw2⟩
            have hp' : pos < al.data.toList.length := by rw [← size_list]; exact hp
            rw [← List.take_append_getElem hp', List.all_append, hdg, Bool.true_and, List.all_cons, List.all_nil, Bool.and_true]
            exact hd
          case measure =>
            simp only [World.iterPos, hit2, hit]
            omega
        · have hno : ¬ al.data.toList.all isDig = true := by
            intro q
            have hp' : pos < al.data.toList.length := by rw [← size_list]; exact hp
            exact hd (List.all_eq_true.1 q _ (List.getElem_mem hp'))
          rw [if_neg hno] at h
          simp only [Option.some.injEq, Prod.mk.injEq] at h
          obtain ⟨rfl, rfl, rfl, rfl⟩ := h
          obtain ⟨c, hc⟩ : ∃ c : Int, ((Utf8.decode al pos).1 : Int) = c := ⟨_, rfl⟩
          rw [hc] at hnx
          have hcc : c < 48 ∨ c > 57 := by
            by_cases ha : (al[pos]'hp).toNat < 128
            · rw [decode_ascii al pos hp ha] at hc
              have hq : ¬ (48 ≤ (al[pos]'hp).toNat ∧ (al[pos]'hp).toNat ≤ 57) := fun q => hd ((isDig_iff _).2 q)
              have hc : (((al[pos]'hp).toNat : Nat) : Int) = c := hc
              omega
            · have := (decode_high al pos hp (by omega)).1
              omega
          rcases hcc with hcc | hcc
          · have c1 : decide (c < 48) = true := decide_eq_true hcc
            go_wp2
            ((try simp only [Exit.inBlock, Exit.then]); refine bodyPost_ret (results_tmp4 rfl _ _ _) rfl ?_)
            exact ⟨rfl, hbw2⟩
          · have c1 : decide (c < 48) = false := decide_eq_false (by omega)
            have c2 : decide (c > 57) = true := decide_eq_true hcc
            go_wp2
            ((try simp only [Exit.inBlock, Exit.then]); refine bodyPost_ret (results_tmp4 rfl _ _ _) rfl ?_)
            exact ⟨rfl, hbw2⟩
      · have hnx : ∀ ty, (Instr.next (.pointer (some ⟨w2.heap.size, 0, none⟩)) true ty).run Tryz.prog wr = _ := fun ty => Lib.run_next_end_at wr w2.heap.size al pos ty hit hp
        have hall : al.data.toList.all isDig = true := by
          rw [← List.take_of_length_le (show al.data.toList.length ≤ pos by rw [← size_list]; omega)]
          exact hdg
        rw [if_pos (show al.data.toList.all isDig = true from hall)] at h
        simp only [Option.some.injEq, Prod.mk.injEq] at h
        obtain ⟨rfl, rfl, rfl, rfl⟩ := h
        cases f1 : wh.toList.isEmpty with
        | true =>
          have hb : badB mi wh pl pt = true := by simp [badB, f1]
          go_wp2
          ((try simp only [Exit.inBlock, Exit.then]); refine bodyPost_ret (results_tmp4 rfl _ _ _) rfl ?_)
          exact ⟨by first | rfl | (rw [hb]; rfl), hB⟩
        | false =>
          have h0 : 0 < wh.size := by
            rcases Nat.eq_zero_or_pos wh.size with q | q
            · rw [empty_list, List.eq_nil_of_length_eq_zero (show wh.data.toList.length = 0 by rw [← size_list]; exact q)] at f1; cases f1
            · exact q
          have hh := head_at h0
          by_cases g2 : (wh.size : Int) > 1
          · have f2 : decide ((wh.size : Int) > 1) = true := decide_eq_true g2
            cases f3 : ((((wh[0]'h0).toNat : Nat) : Int) == 48) with
            | true =>
              have f4 : wh.data.toList.head? = some 48 := by rw [hh]; exact beq_iff_eq.1 f3
              have hb : badB mi wh pl pt = true := by simp [badB, f1, f2, f4]
              go_wp2
              ((try simp only [Exit.inBlock, Exit.then]); refine bodyPost_ret (results_tmp4 rfl _ _ _) rfl ?_)
              exact ⟨by first | rfl | (rw [hb]; rfl), hB⟩
            | false =>
              have f4 : ¬ wh.data.toList.head? = some 48 := by rw [hh]; exact beq_eq_false_iff_ne.1 f3
              cases pt with
              | false =>
                cases mi with
                | false =>
                  have hb : badB false wh pl false = decide ((al.size : Int) > 20) := by simp [badB, f1, f2, f4, HAL.out]
                  go_wp2
                  ((try simp only [Exit.inBlock, Exit.then]); refine bodyPost_ret (results_tmp4 rfl _ _ _) rfl ?_)
                  exact ⟨by first | rfl | (rw [hb]; rfl), hB⟩
                | true =>
                  have htr := trim_f hal
                  obtain ⟨tr, htre⟩ : ∃ tr : ByteArray, (⟨(trimS al.data.toList [48]).toArray⟩ : ByteArray) = tr := ⟨_, rfl⟩
                  have ftr : (trimS (wh.data.toList ++ pl.data.toList) [48]).isEmpty = tr.toList.isEmpty := by rw [empty_list, ← htre, ← app_list, HAL.out]
                  rw [htre] at htr
                  cases f8 : tr.toList.isEmpty with
                  | true =>
                    rw [f8] at ftr
                    have hb : badB true wh pl false = true := by simp [badB, f1, f2, f4, ftr]
                    go_wp2_with (first | (go_at_call 49; refine (strings_Trim.calls _ _ _ _ htr).mono ?_; rintro e w4 ⟨rfl, hb4⟩) | go_in)
                    ((try simp only [Exit.inBlock, Exit.then]); refine bodyPost_ret (results_tmp4 rfl _ _ _) rfl ?_)
                    exact ⟨by first | rfl | (rw [hb]; rfl), below_step hB hb4⟩
                  | false =>
                    rw [f8] at ftr
                    have hb : badB true wh pl false = decide ((al.size : Int) > 20) := by simp [badB, f1, f2, f4, ftr, HAL.out]
                    go_wp2_with (first | (go_at_call 49; refine (strings_Trim.calls _ _ _ _ htr).mono ?_; rintro e w4 ⟨rfl, hb4⟩) | go_in)
                    ((try simp only [Exit.inBlock, Exit.then]); refine bodyPost_ret (results_tmp4 rfl _ _ _) rfl ?_)
                    exact ⟨by first | rfl | (rw [hb]; rfl), below_step hB hb4⟩
              | true =>
                cases f5 : pl.toList.isEmpty with
                | true =>
                  have hb : badB mi wh pl true = true := by simp [badB, f1, f2, f4, f5]
                  go_wp2
                  ((try simp only [Exit.inBlock, Exit.then]); refine bodyPost_ret (results_tmp4 rfl _ _ _) rfl ?_)
                  exact ⟨by first | rfl | (rw [hb]; rfl), hB⟩
                | false =>
                  cases hsf : hasSuffix pl.data.toList [48] with
                  | true =>
                    have hb : badB mi wh pl true = true := by simp [badB, f1, f2, f4, f5, hsf]
                    go_wp2_with (first | (go_at_call 48; refine (suffix_calls hpl hsf _).mono ?_; rintro e w3 ⟨rfl, rfl⟩) | go_in)
                    ((try simp only [Exit.inBlock, Exit.then]); refine bodyPost_ret (results_tmp4 rfl _ _ _) rfl ?_)
                    exact ⟨by first | rfl | (rw [hb]; rfl), hB⟩
                  | false =>
                    cases mi with
                    | false =>
                      have hb : badB false wh pl true = decide ((al.size : Int) > 20) := by simp [badB, f1, f2, f4, f5, hsf, HAL.out]
                      go_wp2_with (first | (go_at_call 48; refine (suffix_calls hpl hsf _).mono ?_; rintro e w3 ⟨rfl, rfl⟩) | go_in)
                      ((try simp only [Exit.inBlock, Exit.then]); refine bodyPost_ret (results_tmp4 rfl _ _ _) rfl ?_)
                      exact ⟨by first | rfl | (rw [hb]; rfl), hB⟩
                    | true =>
                      have htr := trim_f hal
                      obtain ⟨tr, htre⟩ : ∃ tr : ByteArray, (⟨(trimS al.data.toList [48]).toArray⟩ : ByteArray) = tr := ⟨_, rfl⟩
                      have ftr : (trimS (wh.data.toList ++ pl.data.toList) [48]).isEmpty = tr.toList.isEmpty := by rw [empty_list, ← htre, ← app_list, HAL.out]
                      rw [htre] at htr
                      cases f8 : tr.toList.isEmpty with
                      | true =>
                        rw [f8] at ftr
                        have hb : badB true wh pl true = true := by simp [badB, f1, f2, f4, f5, hsf, ftr]
                        go_wp2_with (first | (go_at_call 48; refine (suffix_calls hpl hsf _).mono ?_; rintro e w3 ⟨rfl, rfl⟩) | (go_at_call 49; refine (strings_Trim.calls _ _ _ _ htr).mono ?_; rintro e w4 ⟨rfl, hb4⟩) | go_in)
                        ((try simp only [Exit.inBlock, Exit.then]); refine bodyPost_ret (results_tmp4 rfl _ _ _) rfl ?_)
                        exact ⟨by first | rfl | (rw [hb]; rfl), below_step hB hb4⟩
                      | false =>
                        rw [f8] at ftr
                        have hb : badB true wh pl true = decide ((al.size : Int) > 20) := by simp [badB, f1, f2, f4, f5, hsf, ftr, HAL.out]
                        go_wp2_with (first | (go_at_call 48; refine (suffix_calls hpl hsf _).mono ?_; rintro e w3 ⟨rfl, rfl⟩) | (go_at_call 49; refine (strings_Trim.calls _ _ _ _ htr).mono ?_; rintro e w4 ⟨rfl, hb4⟩) | go_in)
                        ((try simp only [Exit.inBlock, Exit.then]); refine bodyPost_ret (results_tmp4 rfl _ _ _) rfl ?_)
                        exact ⟨by first | rfl | (rw [hb]; rfl), below_step hB hb4⟩
          · have f2 : decide ((wh.size : Int) > 1) = false := decide_eq_false g2
            cases pt with
            | false =>
              cases mi with
              | false =>
                have hb : badB false wh pl false = decide ((al.size : Int) > 20) := by simp [badB, f1, f2, HAL.out]
                go_wp2
                ((try simp only [Exit.inBlock, Exit.then]); refine bodyPost_ret (results_tmp4 rfl _ _ _) rfl ?_)
                exact ⟨by first | rfl | (rw [hb]; rfl), hB⟩
              | true =>
                have htr := trim_f hal
                obtain ⟨tr, htre⟩ : ∃ tr : ByteArray, (⟨(trimS al.data.toList [48]).toArray⟩ : ByteArray) = tr := ⟨_, rfl⟩
                have ftr : (trimS (wh.data.toList ++ pl.data.toList) [48]).isEmpty = tr.toList.isEmpty := by rw [empty_list, ← htre, ← app_list, HAL.out]
                rw [htre] at htr
                cases f8 : tr.toList.isEmpty with
                | true =>
                  rw [f8] at ftr
                  have hb : badB true wh pl false = true := by simp [badB, f1, f2, ftr]
                  go_wp2_with (first | (go_at_call 49; refine (strings_Trim.calls _ _ _ _ htr).mono ?_; rintro e w4 ⟨rfl, hb4⟩) | go_in)
                  ((try simp only [Exit.inBlock, Exit.then]); refine bodyPost_ret (results_tmp4 rfl _ _ _) rfl ?_)
                  exact ⟨by first | rfl | (rw [hb]; rfl), below_step hB hb4⟩
                | false =>
                  rw [f8] at ftr
                  have hb : badB true wh pl false = decide ((al.size : Int) > 20) := by simp [badB, f1, f2, ftr, HAL.out]
                  go_wp2_with (first | (go_at_call 49; refine (strings_Trim.calls _ _ _ _ htr).mono ?_; rintro e w4 ⟨rfl, hb4⟩) | go_in)
                  ((try simp only [Exit.inBlock, Exit.then]); refine bodyPost_ret (results_tmp4 rfl _ _ _) rfl ?_)
                  exact ⟨by first | rfl | (rw [hb]; rfl), below_step hB hb4⟩
            | true =>
              cases f5 : pl.toList.isEmpty with
              | true =>
                have hb : badB mi wh pl true = true := by simp [badB, f1, f2, f5]
                go_wp2
                ((try simp only [Exit.inBlock, Exit.then]); refine bodyPost_ret (results_tmp4 rfl _ _ _) rfl ?_)
                exact ⟨by first | rfl | (rw [hb]; rfl), hB⟩
              | false =>
                cases hsf : hasSuffix pl.data.toList [48] with
                | true =>
                  have hb : badB mi wh pl true = true := by simp [badB, f1, f2, f5, hsf]
                  go_wp2_with (first | (go_at_call 48; refine (suffix_calls hpl hsf _).mono ?_; rintro e w3 ⟨rfl, rfl⟩) | go_in)
                  ((try simp only [Exit.inBlock, Exit.then]); refine bodyPost_ret (results_tmp4 rfl _ _ _) rfl ?_)
                  exact ⟨by first | rfl | (rw [hb]; rfl), hB⟩
                | false =>
                  cases mi with
                  | false =>
                    have hb : badB false wh pl true = decide ((al.size : Int) > 20) := by simp [badB, f1, f2, f5, hsf, HAL.out]
                    go_wp2_with (first | (go_at_call 48; refine (suffix_calls hpl hsf _).mono ?_; rintro e w3 ⟨rfl, rfl⟩) | go_in)
                    ((try simp only [Exit.inBlock, Exit.then]); refine bodyPost_ret (results_tmp4 rfl _ _ _) rfl ?_)
                    exact ⟨by first | rfl | (rw [hb]; rfl), hB⟩
                  | true =>
                    have htr := trim_f hal
                    obtain ⟨tr, htre⟩ : ∃ tr : ByteArray, (⟨(trimS al.data.toList [48]).toArray⟩ : ByteArray) = tr := ⟨_, rfl⟩
                    have ftr : (trimS (wh.data.toList ++ pl.data.toList) [48]).isEmpty = tr.toList.isEmpty := by rw [empty_list, ← htre, ← app_list, HAL.out]
                    rw [htre] at htr
                    cases f8 : tr.toList.isEmpty with
                    | true =>
                      rw [f8] at ftr
                      have hb : badB true wh pl true = true := by simp [badB, f1, f2, f5, hsf, ftr]
                      go_wp2_with (first | (go_at_call 48; refine (suffix_calls hpl hsf _).mono ?_; rintro e w3 ⟨rfl, rfl⟩) | (go_at_call 49; refine (strings_Trim.calls _ _ _ _ htr).mono ?_; rintro e w4 ⟨rfl, hb4⟩) | go_in)
                      ((try simp only [Exit.inBlock, Exit.then]); refine bodyPost_ret (results_tmp4 rfl _ _ _) rfl ?_)
                      exact ⟨by first | rfl | (rw [hb]; rfl), below_step hB hb4⟩
                    | false =>
                      rw [f8] at ftr
                      have hb : badB true wh pl true = decide ((al.size : Int) > 20) := by simp [badB, f1, f2, f5, hsf, ftr, HAL.out]
                      go_wp2_with (first | (go_at_call 48; refine (suffix_calls hpl hsf _).mono ?_; rintro e w3 ⟨rfl, rfl⟩) | (go_at_call 49; refine (strings_Trim.calls _ _ _ _ htr).mono ?_; rintro e w4 ⟨rfl, hb4⟩) | go_in)
                      ((try simp only [Exit.inBlock, Exit.then]); refine bodyPost_ret (results_tmp4 rfl _ _ _) rfl ?_)
                      exact ⟨by first | rfl | (rw [hb]; rfl), below_step hB hb4⟩
  · cases h
end Go.Proofs.YtmjglehdckgcnaaGreatDoor.Pr
namespace Go.Proofs.YtmjglehdckgcnaaGreatDoor.PL
open Go Go.RowKit Go.Proofs.YtmjglehdckgcnaaGreatDoorW.PrintWords Go.Proofs.YtmjglehdckgcnaaGreatDoorW.PrintLast Go.Proofs.YtmjglehdckgcnaaGreatDoorW.PrintMore
theorem evp {α : Type} {c : Prop} [Decidable c] {g h : Nat → Option α} {r : α} (hc : c) (k : Ev g r) : Ev (fun n => if c then g n else h n) r :=
  Ev.congr (fun n => if_pos hc) k
theorem evn {α : Type} {c : Prop} [Decidable c] {g h : Nat → Option α} {r : α} (hc : ¬ c) (k : Ev h r) : Ev (fun n => if c then g n else h n) r :=
  Ev.congr (fun n => if_neg hc) k
theorem evb {α β : Type} {g : Nat → Option α} {f : Nat → α → Option β} {a : α} {r : β} (h : Ev g a) (k : Ev (fun n => f n a) r) : Ev (fun n => (g n).bind (f n)) r := Ev.bind h k
theorem evr {α : Type} {a r : α} (h : a = r) : Ev (fun _ => some a) r := by subst h; exact Ev.now _
theorem evc {α : Type} {g : Nat → Option α} {r : α} {o : Option α} (hg : ∀ n, g n = o) (h : o = some r) : Ev g r := by
  subst h
  exact Ev.congr hg (Ev.now _)
theorem w64 {x : Int} (h0 : -9223372036854775808 ≤ x) (h1 : x ≤ 9223372036854775807) : wrap64 x = x := by
  unfold wrap64
  omega
/-- A test that comes to true where P holds, and else to false. -/
def EvB (g : Nat → Option Bool) (P : Prop) : Prop := (P → Ev g true) ∧ (¬ P → Ev g false)
theorem EvB.map {g : Nat → Option Bool} {f : Nat → Bool → Option Bool} {P Q : Prop} (h : EvB g P) (ht : P → EvB (fun n => f n true) Q) (hf : ¬ P → EvB (fun n => f n false) Q) : EvB (fun n => (g n).bind (f n)) Q := by
  by_cases hp : P
  · exact ⟨fun q => Ev.bind (h.1 hp) ((ht hp).1 q), fun q => Ev.bind (h.1 hp) ((ht hp).2 q)⟩
  · exact ⟨fun q => Ev.bind (h.2 hp) ((hf hp).1 q), fun q => Ev.bind (h.2 hp) ((hf hp).2 q)⟩
end Go.Proofs.YtmjglehdckgcnaaGreatDoor.PL
namespace Go.Proofs.YtmjglehdckgcnaaGreatDoor.Pr
open Go Go.RowKit Go.Maps Go.WideMaps Go.Lib Go.Proofs.YtmjglehdckgcnaaGreatDoorW.PrintWords Go.Proofs.YtmjglehdckgcnaaGreatDoorW.PrintLast Go.Proofs.YtmjglehdckgcnaaGreatDoorW.PrintMore Go.Proofs.YtmjglehdckgcnaaGreatDoor.X Go.Proofs.YtmjglehdckgcnaaGreatDoor.TX Go.Proofs.YtmjglehdckgcnaaGreatDoor.PL
theorem itoa_mag {a : Int} (h0 : 0 ≤ a) (h1 : a ≤ 4611686018427387904) : strconv_Itoa.f a = some ⟨(decDigits a.natAbs).toArray⟩ := by
  unfold strconv_Itoa.f
  rw [if_pos (by omega), if_pos (by omega)]
  unfold Lib.itoa
  rw [if_neg (by omega), show a.toNat = a.natAbs by omega]
theorem rep_zero (c : Nat) (hc : c ≤ 100) (w : World) : Calls Tryz.prog 15 #[.string ⟨#[48]⟩, .int .i64 c] w fun e w' => e = .returned (.string ⟨(List.replicate c (48 : UInt8)).toArray⟩) ∧ Below w.heap.size w w' := by
  have h := Tryz.strings_Repeat ⟨#[48]⟩ c w (by omega) (by show 1 * c ≤ _; omega)
  rw [show Lib.repeatL (⟨#[48]⟩ : ByteArray).data.toList c = List.replicate c 48 from by
    have := repeatL_replicate (48 : UInt8) 1 c
    rw [Nat.mul_one] at this
    exact this] at h
  exact h
def textB (a : Int) (z : Int) (name : ByteArray) : ByteArray := ⟨(decT (decide (a < 0)) z.toNat a.natAbs ++ 32 :: name.data.toList).toArray⟩
def unit_Print.f (k : Nat) (a0_0 a0_1 : Int) (a1 : ByteArray) : Option (ByteArray × Int) :=
  (unit_Check.f k a0_0 a0_1).bind fun e => if e = 0 then (if 12 ≤ k ∧ a1.size ≤ 1000 ∧ -4611686018427387904 ≤ a0_1 ∧ a0_1 ≤ 4611686018427387904 then (match unitAt a1.data.toList with
    | none => some (⟨#[]⟩, 4)
    | some p => if p.1 = a0_0 then some (textB a0_1 p.2 a1, 0) else some (⟨#[]⟩, 10)) else none) else some (⟨#[]⟩, 1)
theorem unit_Print.mono : ∀ a0 a1 a2 k, LeO (unit_Print.f k a0 a1 a2) (unit_Print.f (k + 1) a0 a1 a2) := by
  intro a0 a1 a2 k
  unfold unit_Print.f
  refine LeO.bind (unit_Check.mono _ _ _) fun e => ?_
  split
  · intro r h
    split at h
    · rename_i c
      rw [if_pos ⟨by omega, c.2⟩]
      exact h
    · cases h
  · exact LeO.refl _
/-- The digits, with zeros ahead, cut at the point. -/
structure Cuts (zn m : Nat) (D RZ DS H T PL : ByteArray) (z1 dd q : Int) (cnt : Nat) : Prop where
  d : D.data.toList = decDigits m
  rz : RZ.data.toList = List.replicate cnt 48
  cl : cnt ≤ 100
  ds : RZ ++ D = DS
  s0 : RZ.size + D.size ≤ 1000
  e1 : wrap64 ((zn : Int) + 1) = z1
  e2 : wrap64 (z1 - (D.size : Int)) = dd
  e3 : max 0 dd = (cnt : Int)
  e4 : wrap64 ((DS.size : Int) - (zn : Int)) = q
  q0 : 0 ≤ q
  q1 : q ≤ (DS.size : Int)
  h : DS.extract 0 q.toNat = H
  t : DS.extract q.toNat DS.size = T
  hh : H.data.toList = decDigits (m / 10 ^ zn)
  hp : PL.data.toList = restD zn (m % 10 ^ zn)
  pl : strings_TrimRight.f T ⟨#[48]⟩ = some PL
  s1 : H.size ≤ 1000
  s2 : PL.size ≤ 1000
theorem cuts_of (zn m : Nat) (hz : zn ≤ 8) (hm : m ≤ 4611686018427387904) : ∃ D RZ DS H T PL z1 dd q cnt, Cuts zn m D RZ DS H T PL z1 dd q cnt := by
  have hD1 := digits_len m
  have hD2 : (decDigits m).length ≤ 19 := digits_length_le (by omega) (by decide)
  obtain ⟨D, hD⟩ : ∃ D : ByteArray, D = ⟨(decDigits m).toArray⟩ := ⟨_, rfl⟩
  have hDl : D.data.toList = decDigits m := by rw [hD]
  have hDs : D.size = (decDigits m).length := by rw [size_list, hDl]
  obtain ⟨RZ, hR⟩ : ∃ RZ : ByteArray, RZ = ⟨(List.replicate (zn + 1 - D.size) (48 : UInt8)).toArray⟩ := ⟨_, rfl⟩
  have hRl : RZ.data.toList = List.replicate (zn + 1 - D.size) 48 := by rw [hR]
  have hRs : RZ.size = zn + 1 - D.size := by rw [size_list, hRl, List.length_replicate]
  obtain ⟨DS, hS⟩ : ∃ DS : ByteArray, RZ ++ D = DS := ⟨_, rfl⟩
  have hSl : DS.data.toList = List.replicate (zn + 1 - (decDigits m).length) 48 ++ decDigits m := by rw [← hS, app_list, hRl, hDl, hDs]
  obtain ⟨p1, p2, p3⟩ := pad_cut zn m DS.data.toList hSl
  rw [← size_list] at p1 p2 p3
  have hSs : DS.size = RZ.size + D.size := by rw [← hS, ByteArray.size_append]
  have w1 : wrap64 ((zn : Int) + 1) = (zn : Int) + 1 := w64 (by omega) (by omega)
  have w2 : wrap64 ((zn : Int) + 1 - (D.size : Int)) = (zn : Int) + 1 - (D.size : Int) := w64 (by omega) (by omega)
  have w3 : wrap64 ((DS.size : Int) - (zn : Int)) = ((DS.size - zn : Nat) : Int) := by rw [w64 (by omega) (by omega)]; omega
  refine ⟨D, RZ, DS, _, _, ⟨(trimRightS (DS.extract (((DS.size - zn : Nat) : Int)).toNat DS.size).data.toList [48]).toArray⟩, _, _, ((DS.size - zn : Nat) : Int), zn + 1 - D.size, hDl, hRl, by omega, hS, by omega, w1, w2, ?_, w3, by omega, by omega, rfl, rfl, ?_, ?_, ?_, ?_, ?_⟩
  · omega
  · rw [Int.toNat_natCast, ext_list, List.drop_zero]
    exact p2
  · show trimRightS (DS.extract (((DS.size - zn : Nat) : Int)).toNat DS.size).data.toList [48] = _
    rw [Int.toNat_natCast, ext_list, List.take_of_length_le (by rw [← size_list]; exact Nat.le_refl _)]
    exact p3
  · unfold strings_TrimRight.f
    rw [if_pos ⟨by rw [ByteArray.size_extract]; omega, by decide, by decide⟩]
  · rw [ByteArray.size_extract]
    omega
  · rw [size_list]
    show (trimRightS (DS.extract (((DS.size - zn : Nat) : Int)).toNat DS.size).data.toList [48]).length ≤ 1000
    rw [Int.toNat_natCast, ext_list, List.take_of_length_le (by rw [← size_list]; exact Nat.le_refl _), p3]
    have := rest_len zn (m % 10 ^ zn) (Nat.mod_lt _ (Nat.pow_pos (by omega)))
    omega
set_option maxHeartbeats 8000000 in
set_option maxRecDepth 100000 in
theorem unit_Print.c1 (k : Nat) (a0_0 a0_1 : Int) (a1 : ByteArray) (w : World) (hG : GI w) (e0 : Int) (hc : unit_Check.f k a0_0 a0_1 = some e0) (he : e0 ≠ 0) :
    Calls Tryz.prog 5 #[.agg #[.int .i64 a0_0, .int .i64 a0_1], .string a1] w fun e w' => e = .returned (.tuple #[.string ⟨#[]⟩, .int .i64 1]) ∧ Below w.heap.size w w' := by
  have hu23 := Tryz.underlying23
  have hu48 := Tryz.underlying38
  have c0 : (e0 != 0) = true := bne_iff_ne.mpr he
  go_enter Tryz.func5, Tryz.ntmps5
  go_wp2_with (first
          | (go_at_call 12; refine (unit_Check.calls k a0_0 a0_1 e0 _ hc).mono ?_; rintro e w2 ⟨rfl, hb2⟩; have hbox2 := box_stays hbox1 hb2; have cz0 : w2.cell? ⟨gq, 0, none⟩ = some (.int .i64 a0_0) := (blk_cell hbox2 0).trans rfl; have cz1 : w2.cell? ⟨gq, 1, none⟩ = some (.int .i64 a0_1) := (blk_cell hbox2 1).trans rfl; have fz0 := blk_frozen hbox2 0; have fz1 := blk_frozen hbox2 1)
          | ((with_reducible refine gate_dst (N := 2) rfl ?_); refine box_event ?hg (N := 2) ?hd (cs := #[.int .i64 a0_0, .int .i64 a0_1]) (t := 23) ?hr ?_; (case hd => rfl); (case hg => rfl); (case hr => first | (go_simp; done) | (go_simp; rfl)); intro gq hgq w1 hbox1 hb1; have GQ := Aside0.mk hgq; clear hgq; have az0 : w1.cell? ⟨gq, 0, none⟩ = some (.int .i64 a0_0) := (blk_cell hbox1 0).trans rfl; have az1 : w1.cell? ⟨gq, 1, none⟩ = some (.int .i64 a0_1) := (blk_cell hbox1 1).trans rfl; have ez0 := blk_frozen hbox1 0; have ez1 := blk_frozen hbox1 1)
          | (go_at_call 13; refine (unit_units.calls _).mono ?_; rintro e w3 ⟨b, rfl, hm3, hb3, hle3⟩; have hlk := True.intro; have hbox3 := box_stays hbox2 hb3)
          | ((with_reducible refine gate_dst (N := 6) rfl ?_); refine box_event ?hg (N := 6) ?hd (cs := #[.int .i64 0, .int .i64 0]) (t := 38) ?hr ?_; (case hd => rfl); (case hg => rfl); (case hr => first | (go_simp; done) | (go_simp; rfl)); intro gu hgu w4 hu4 hb4; have GU := Aside0.mk hgu; clear hgu; have hbox4 := box_stays hbox3 hb4; have uz0 : w4.cell? ⟨gu, 0, none⟩ = some (.int .i64 0) := (blk_cell hu4 0).trans rfl; have uz1 : w4.cell? ⟨gu, 1, none⟩ = some (.int .i64 0) := (blk_cell hu4 1).trans rfl; have uf0 := blk_frozen hu4 0; have uf1 := blk_frozen hu4 1)
          | go_in)
  go_ret2
  exact ⟨rfl, below_step hb1 hb2⟩
set_option maxHeartbeats 8000000 in
set_option maxRecDepth 100000 in
theorem unit_Print.c2 (k : Nat) (a0_0 a0_1 : Int) (a1 : ByteArray) (w : World) (hG : GI w) (e0 : Int) (hc : unit_Check.f k a0_0 a0_1 = some e0) (he : e0 = 0) (hn : a1.size ≤ 1000) (hu : unitAt a1.data.toList = none) :
    Calls Tryz.prog 5 #[.agg #[.int .i64 a0_0, .int .i64 a0_1], .string a1] w fun e w' => e = .returned (.tuple #[.string ⟨#[]⟩, .int .i64 4]) ∧ Below w.heap.size w w' := by
  have hu23 := Tryz.underlying23
  have hu48 := Tryz.underlying38
  subst he
  have e0 : Int := 0
  go_enter Tryz.func5, Tryz.ntmps5
  go_wp2_with (first
          | (go_at_call 12; refine (unit_Check.calls k a0_0 a0_1 0 _ hc).mono ?_; rintro e w2 ⟨rfl, hb2⟩; have hbox2 := box_stays hbox1 hb2; have cz0 : w2.cell? ⟨gq, 0, none⟩ = some (.int .i64 a0_0) := (blk_cell hbox2 0).trans rfl; have cz1 : w2.cell? ⟨gq, 1, none⟩ = some (.int .i64 a0_1) := (blk_cell hbox2 1).trans rfl; have fz0 := blk_frozen hbox2 0; have fz1 := blk_frozen hbox2 1)
          | ((with_reducible refine gate_dst (N := 2) rfl ?_); refine box_event ?hg (N := 2) ?hd (cs := #[.int .i64 a0_0, .int .i64 a0_1]) (t := 23) ?hr ?_; (case hd => rfl); (case hg => rfl); (case hr => first | (go_simp; done) | (go_simp; rfl)); intro gq hgq w1 hbox1 hb1; have GQ := Aside0.mk hgq; clear hgq; have az0 : w1.cell? ⟨gq, 0, none⟩ = some (.int .i64 a0_0) := (blk_cell hbox1 0).trans rfl; have az1 : w1.cell? ⟨gq, 1, none⟩ = some (.int .i64 a0_1) := (blk_cell hbox1 1).trans rfl; have ez0 := blk_frozen hbox1 0; have ez1 := blk_frozen hbox1 1)
          | (go_at_call 13; refine (unit_units.calls _).mono ?_; rintro e w3 ⟨b, rfl, hm3, hb3, hle3⟩; have hlk := look_no hm3 hn hu; have hbox3 := box_stays hbox2 hb3)
          | ((with_reducible refine gate_dst (N := 6) rfl ?_); refine box_event ?hg (N := 6) ?hd (cs := #[.int .i64 0, .int .i64 0]) (t := 38) ?hr ?_; (case hd => rfl); (case hg => rfl); (case hr => first | (go_simp; done) | (go_simp; rfl)); intro gu hgu w4 hu4 hb4; have GU := Aside0.mk hgu; clear hgu; have hbox4 := box_stays hbox3 hb4; have uz0 : w4.cell? ⟨gu, 0, none⟩ = some (.int .i64 0) := (blk_cell hu4 0).trans rfl; have uz1 : w4.cell? ⟨gu, 1, none⟩ = some (.int .i64 0) := (blk_cell hu4 1).trans rfl; have uf0 := blk_frozen hu4 0; have uf1 := blk_frozen hu4 1)
          | go_in)
  go_ret2
  exact ⟨rfl, below_step (below_step (below_step hb1 hb2) hb3) ((hb4.setCell (p := ⟨gu, 0, none⟩) (Nat.le_of_eq GU.out.symm) _).setCell (p := ⟨gu, 1, none⟩) (Nat.le_of_eq GU.out.symm) _)⟩
set_option maxHeartbeats 8000000 in
set_option maxRecDepth 100000 in
theorem unit_Print.c3 (k : Nat) (a0_0 a0_1 : Int) (a1 : ByteArray) (w : World) (hG : GI w) (e0 : Int) (hc : unit_Check.f k a0_0 a0_1 = some e0) (he : e0 = 0) (hn : a1.size ≤ 1000) (kd z : Int) (hu : unitAt a1.data.toList = some (kd, z)) (hk : kd ≠ a0_0) :
    Calls Tryz.prog 5 #[.agg #[.int .i64 a0_0, .int .i64 a0_1], .string a1] w fun e w' => e = .returned (.tuple #[.string ⟨#[]⟩, .int .i64 10]) ∧ Below w.heap.size w w' := by
  have hu23 := Tryz.underlying23
  have hu48 := Tryz.underlying38
  subst he
  go_enter Tryz.func5, Tryz.ntmps5
  go_upto_region 4 with (first
          | (go_at_call 12; refine (unit_Check.calls k a0_0 a0_1 0 _ hc).mono ?_; rintro e w2 ⟨rfl, hb2⟩; have hbox2 := box_stays hbox1 hb2; have cz0 : w2.cell? ⟨gq, 0, none⟩ = some (.int .i64 a0_0) := (blk_cell hbox2 0).trans rfl; have cz1 : w2.cell? ⟨gq, 1, none⟩ = some (.int .i64 a0_1) := (blk_cell hbox2 1).trans rfl; have fz0 := blk_frozen hbox2 0; have fz1 := blk_frozen hbox2 1)
          | ((with_reducible refine gate_dst (N := 2) rfl ?_); refine box_event ?hg (N := 2) ?hd (cs := #[.int .i64 a0_0, .int .i64 a0_1]) (t := 23) ?hr ?_; (case hd => rfl); (case hg => rfl); (case hr => first | (go_simp; done) | (go_simp; rfl)); intro gq hgq w1 hbox1 hb1; have GQ := Aside0.mk hgq; clear hgq; have az0 : w1.cell? ⟨gq, 0, none⟩ = some (.int .i64 a0_0) := (blk_cell hbox1 0).trans rfl; have az1 : w1.cell? ⟨gq, 1, none⟩ = some (.int .i64 a0_1) := (blk_cell hbox1 1).trans rfl; have ez0 := blk_frozen hbox1 0; have ez1 := blk_frozen hbox1 1)
          | (go_at_call 13; refine (unit_units.calls _).mono ?_; rintro e w3 ⟨b, rfl, hm3, hb3, hle3⟩; have hlk := look_yes hm3 hn hu; have hbox3 := box_stays hbox2 hb3)
          | ((with_reducible refine gate_dst (N := 6) rfl ?_); refine box_event ?hg (N := 6) ?hd (cs := #[.int .i64 0, .int .i64 0]) (t := 38) ?hr ?_; (case hd => rfl); (case hg => rfl); (case hr => first | (go_simp; done) | (go_simp; rfl)); intro gu hgu w4 hu4 hb4; have GU := Aside0.mk hgu; clear hgu; have hbox4 := box_stays hbox3 hb4; have uz0 : w4.cell? ⟨gu, 0, none⟩ = some (.int .i64 0) := (blk_cell hu4 0).trans rfl; have uz1 : w4.cell? ⟨gu, 1, none⟩ = some (.int .i64 0) := (blk_cell hu4 1).trans rfl; have uf0 := blk_frozen hu4 0; have uf1 := blk_frozen hu4 1))
  have HBW : Aside0 (Below w.heap.size w ((w4.setCell ⟨gu, 0, none⟩ (.int .i64 kd)).setCell ⟨gu, 1, none⟩ (.int .i64 z))) := ⟨below_step (below_step (below_step hb1 hb2) hb3) ((hb4.setCell (p := ⟨gu, 0, none⟩) (Nat.le_of_eq GU.out.symm) _).setCell (p := ⟨gu, 1, none⟩) (Nat.le_of_eq GU.out.symm) _)⟩
  have HU : Aside0 (((w4.setCell ⟨gu, 0, none⟩ (.int .i64 kd)).setCell ⟨gu, 1, none⟩ (.int .i64 z)).heap[gu]? = some (.cells #[.int .i64 kd, .int .i64 z] 38 (0, 0))) := ⟨blk_put (cs := #[.int .i64 kd, .int .i64 0]) (blk_put (cs := #[.int .i64 0, .int .i64 0]) hu4 0 _ rfl) 1 _ rfl⟩
  have HQ : Aside0 (((w4.setCell ⟨gu, 0, none⟩ (.int .i64 kd)).setCell ⟨gu, 1, none⟩ (.int .i64 z)).heap[gq]? = some (.cells #[.int .i64 a0_0, .int .i64 a0_1] 23 (0, 0))) := ⟨box_stays hbox3 ((hb4.setCell (p := ⟨gu, 0, none⟩) (Nat.le_of_eq GU.out.symm) _).setCell (p := ⟨gu, 1, none⟩) (Nat.le_of_eq GU.out.symm) _)⟩
  generalize (w4.setCell ⟨gu, 0, none⟩ (.int .i64 kd)).setCell ⟨gu, 1, none⟩ (.int .i64 z) = w5 at HBW HU HQ ⊢
  clear uz0 uz1 uf0 uf1 hu4 hbox4 cz0 cz1 fz0 fz1 az0 az1 ez0 ez1
  have vz0 : w5.cell? ⟨gu, 0, none⟩ = some (.int .i64 kd) := (blk_cell HU.out 0).trans rfl
  have vf0 := blk_frozen HU.out 0
  have qz0 : w5.cell? ⟨gq, 0, none⟩ = some (.int .i64 a0_0) := (blk_cell HQ.out 0).trans rfl
  have qf0 := blk_frozen HQ.out 0
  have qz1 : w5.cell? ⟨gq, 1, none⟩ = some (.int .i64 a0_1) := (blk_cell HQ.out 1).trans rfl
  have qf1 := blk_frozen HQ.out 1
  have ckb : (kd != a0_0) = true := bne_iff_ne.mpr hk
  go_wp2
  go_ret2
  exact ⟨rfl, HBW.out⟩
set_option maxHeartbeats 8000000 in
set_option maxRecDepth 100000 in
theorem unit_Print.t0 (k : Nat) (kd a0_1 : Int) (a1 : ByteArray) (w : World) (hG : GI w) (zn : Nat) (D RZ DS H T PL : ByteArray) (z1 dd q : Int) (cnt : Nat) (hc : unit_Check.f k kd a0_1 = some 0) (hn : a1.size ≤ 1000) (hlo : -4611686018427387904 ≤ a0_1) (hhi : a0_1 ≤ 4611686018427387904) (hu : unitAt a1.data.toList = some (kd, (zn : Int))) (hng : ¬ a0_1 < 0) (C : Cuts zn a0_1.natAbs D RZ DS H T PL z1 dd q cnt) (hpe : PL.toList.isEmpty = true) :
    Calls Tryz.prog 5 #[.agg #[.int .i64 kd, .int .i64 a0_1], .string a1] w fun e w' => e = .returned (.tuple #[.string (textB a0_1 zn a1), .int .i64 0]) ∧ Below w.heap.size w w' := by
  have hu23 := Tryz.underlying23
  have hu48 := Tryz.underlying38
  have HG := Aside0.mk hG
  clear hG
  have hmg : a0_1.natAbs ≤ 4611686018427387904 := by omega
  have c1 : decide (a0_1 < 0) = false := decide_eq_false hng
  have hI : strconv_Itoa.f a0_1 = some ⟨(decDigits a0_1.natAbs).toArray⟩ := itoa_mag (by omega) (by omega)
  rw [show (⟨(decDigits a0_1.natAbs).toArray⟩ : ByteArray) = D from (bytes_ext C.d).symm] at hI
  have hz1 := C.e1
  have hdd := C.e2
  have hmx := C.e3
  have hq := C.e4
  have q0 : decide (0 ≤ q) = true := decide_eq_true C.q0
  have q1 : decide (q ≤ (DS.size : Int)) = true := decide_eq_true C.q1
  have q01 : (0 ≤ q ∧ q ≤ (DS.size : Int)) = True := eq_true ⟨C.q0, C.q1⟩
  have hH := C.h
  have hT := C.t
  have ha1 : ∀ w, (Op.stringOp .add RZ D).run Tryz.prog w = .ok (.string DS) w := fun w => C.ds ▸ run_string_add_sum _ _ _ (by have := C.s0; omega)
  have s1 := C.s1
  have s2 := C.s2
  obtain ⟨X1, hX1⟩ : ∃ X1 : ByteArray, (⟨#[]⟩ : ByteArray) ++ H = X1 := ⟨_, rfl⟩
  have l1 : X1.data.toList = [] ++ H.data.toList := by rw [← hX1, app_list]
  have z2 : X1.size ≤ 1001 := by rw [← hX1, ByteArray.size_append]; show 0 + H.size ≤ 1001; omega
  have ha2 : ∀ w, (Op.stringOp .add ⟨#[]⟩ H).run Tryz.prog w = .ok (.string X1) w := fun w => hX1 ▸ run_string_add_sum _ _ _ (by show 0 + H.size ≤ _; omega)
  have fe : PL.toList.isEmpty = true := hpe
  obtain ⟨X5, hX5⟩ : ∃ X5 : ByteArray, X1 ++ (⟨#[32]⟩ : ByteArray) = X5 := ⟨_, rfl⟩
  have l5 : X5.data.toList = X1.data.toList ++ [32] := by rw [← hX5, app_list]
  have z6 : X5.size ≤ 2003 := by rw [← hX5, ByteArray.size_append]; show X1.size + 1 ≤ 2003; omega
  have ha5 : ∀ w, (Op.stringOp .add X1 ⟨#[32]⟩).run Tryz.prog w = .ok (.string X5) w := fun w => hX5 ▸ run_string_add_sum _ _ _ (by show X1.size + 1 ≤ _; omega)
  obtain ⟨X6, hX6⟩ : ∃ X6 : ByteArray, X5 ++ a1 = X6 := ⟨_, rfl⟩
  have ha6 : ∀ w, (Op.stringOp .add X5 a1).run Tryz.prog w = .ok (.string X6) w := fun w => hX6 ▸ run_string_add_sum _ _ _ (by omega)
  have hpl : PL.data.toList = [] := by
    rw [empty_list] at hpe
    exact List.isEmpty_iff.1 hpe
  have fin : textB a0_1 zn a1 = X6 := by
    apply bytes_ext
    rw [← hX6, app_list, l5, l1, C.hh]
    show decT (decide (a0_1 < 0)) (zn : Int).toNat a0_1.natAbs ++ 32 :: a1.data.toList = _
    rw [c1, Int.toNat_natCast]
    unfold decT
    rw [C.hp] at hpl
    rw [if_pos hpl]
    simp
  rw [fin]
  have HC := Aside0.mk C
  clear C l1 z2 s1 s2 l5 z6 hpl fin hX1 hX5 hX6
  go_enter Tryz.func5, Tryz.ntmps5
  go_upto_region 4 with (first
          | (go_at_call 12; refine (unit_Check.calls k kd a0_1 0 _ hc).mono ?_; rintro e w2 ⟨rfl, hb2⟩; have hbox2 := box_stays hbox1 hb2; have cz0 : w2.cell? ⟨gq, 0, none⟩ = some (.int .i64 kd) := (blk_cell hbox2 0).trans rfl; have cz1 : w2.cell? ⟨gq, 1, none⟩ = some (.int .i64 a0_1) := (blk_cell hbox2 1).trans rfl; have fz0 := blk_frozen hbox2 0; have fz1 := blk_frozen hbox2 1)
          | ((with_reducible refine gate_dst (N := 2) rfl ?_); refine box_event ?hg (N := 2) ?hd (cs := #[.int .i64 kd, .int .i64 a0_1]) (t := 23) ?hr ?_; (case hd => rfl); (case hg => rfl); (case hr => first | (go_simp; done) | (go_simp; rfl)); intro gq hgq w1 hbox1 hb1; have GQ := Aside0.mk hgq; clear hgq; have az0 : w1.cell? ⟨gq, 0, none⟩ = some (.int .i64 kd) := (blk_cell hbox1 0).trans rfl; have az1 : w1.cell? ⟨gq, 1, none⟩ = some (.int .i64 a0_1) := (blk_cell hbox1 1).trans rfl; have ez0 := blk_frozen hbox1 0; have ez1 := blk_frozen hbox1 1)
          | (go_at_call 13; refine (unit_units.calls _).mono ?_; rintro e w3 ⟨b, rfl, hm3, hb3, hle3⟩; have hlk := look_yes hm3 hn hu; have hbox3 := box_stays hbox2 hb3)
          | ((with_reducible refine gate_dst (N := 6) rfl ?_); refine box_event ?hg (N := 6) ?hd (cs := #[.int .i64 0, .int .i64 0]) (t := 38) ?hr ?_; (case hd => rfl); (case hg => rfl); (case hr => first | (go_simp; done) | (go_simp; rfl)); intro gu hgu w4 hu4 hb4; have GU := Aside0.mk hgu; clear hgu; have hbox4 := box_stays hbox3 hb4; have uz0 : w4.cell? ⟨gu, 0, none⟩ = some (.int .i64 0) := (blk_cell hu4 0).trans rfl; have uz1 : w4.cell? ⟨gu, 1, none⟩ = some (.int .i64 0) := (blk_cell hu4 1).trans rfl; have uf0 := blk_frozen hu4 0; have uf1 := blk_frozen hu4 1))
  have HBW : Aside0 (Below w.heap.size w ((w4.setCell ⟨gu, 0, none⟩ (.int .i64 kd)).setCell ⟨gu, 1, none⟩ (.int .i64 zn))) := ⟨below_step (below_step (below_step hb1 hb2) hb3) ((hb4.setCell (p := ⟨gu, 0, none⟩) (Nat.le_of_eq GU.out.symm) _).setCell (p := ⟨gu, 1, none⟩) (Nat.le_of_eq GU.out.symm) _)⟩
  have HU : Aside0 (((w4.setCell ⟨gu, 0, none⟩ (.int .i64 kd)).setCell ⟨gu, 1, none⟩ (.int .i64 zn)).heap[gu]? = some (.cells #[.int .i64 kd, .int .i64 zn] 38 (0, 0))) := ⟨blk_put (cs := #[.int .i64 kd, .int .i64 0]) (blk_put (cs := #[.int .i64 0, .int .i64 0]) hu4 0 _ rfl) 1 _ rfl⟩
  have HQ : Aside0 (((w4.setCell ⟨gu, 0, none⟩ (.int .i64 kd)).setCell ⟨gu, 1, none⟩ (.int .i64 zn)).heap[gq]? = some (.cells #[.int .i64 kd, .int .i64 a0_1] 23 (0, 0))) := ⟨box_stays hbox3 ((hb4.setCell (p := ⟨gu, 0, none⟩) (Nat.le_of_eq GU.out.symm) _).setCell (p := ⟨gu, 1, none⟩) (Nat.le_of_eq GU.out.symm) _)⟩
  generalize (w4.setCell ⟨gu, 0, none⟩ (.int .i64 kd)).setCell ⟨gu, 1, none⟩ (.int .i64 zn) = w5 at HBW HU HQ ⊢
  clear uz0 uz1 uf0 uf1 hu4 hbox4 cz0 cz1 fz0 fz1 az0 az1 ez0 ez1
  have vz0 : w5.cell? ⟨gu, 0, none⟩ = some (.int .i64 kd) := (blk_cell HU.out 0).trans rfl
  have vf0 := blk_frozen HU.out 0
  have qz0 : w5.cell? ⟨gq, 0, none⟩ = some (.int .i64 kd) := (blk_cell HQ.out 0).trans rfl
  have qf0 := blk_frozen HQ.out 0
  have qz1 : w5.cell? ⟨gq, 1, none⟩ = some (.int .i64 a0_1) := (blk_cell HQ.out 1).trans rfl
  have qf1 := blk_frozen HQ.out 1
  have ckb : (kd != kd) = false := bne_eq_false_iff_eq.mpr rfl
  go_wp2_with (first
    | (go_at_call 14; refine (strconv_Itoa.calls _ _ _ (GI.below HG.out HBW.out) hI).mono ?_; rintro e w6 ⟨rfl, hb6⟩; have HU6 := box_stays HU.out hb6; have u6 : w6.cell? ⟨gu, 1, none⟩ = some (.int .i64 zn) := (blk_cell HU6 1).trans rfl; have uf6 := blk_frozen HU6 1)
    | (go_at_call 15; (try rw [hmx]); refine (rep_zero cnt HC.out.cl _).mono ?_; rw [show (⟨(List.replicate cnt (48 : UInt8)).toArray⟩ : ByteArray) = RZ from (bytes_ext HC.out.rz).symm]; rintro e w7 ⟨rfl, hb7⟩; have HU7 := box_stays HU6 hb7; have u7 : w7.cell? ⟨gu, 1, none⟩ = some (.int .i64 zn) := (blk_cell HU7 1).trans rfl; have uf7 := blk_frozen HU7 1)
    | (go_at_call 16; refine (strings_TrimRight.calls _ _ _ _ HC.out.pl).mono ?_; rintro e w8 ⟨rfl, hb8⟩)
    | go_in)
  go_ret2
  exact ⟨rfl, below_step (below_step (below_step HBW.out hb6) hb7) hb8⟩
set_option maxHeartbeats 8000000 in
set_option maxRecDepth 100000 in
theorem unit_Print.t1 (k : Nat) (kd a0_1 : Int) (a1 : ByteArray) (w : World) (hG : GI w) (zn : Nat) (D RZ DS H T PL : ByteArray) (z1 dd q : Int) (cnt : Nat) (hc : unit_Check.f k kd a0_1 = some 0) (hn : a1.size ≤ 1000) (hlo : -4611686018427387904 ≤ a0_1) (hhi : a0_1 ≤ 4611686018427387904) (hu : unitAt a1.data.toList = some (kd, (zn : Int))) (hng : ¬ a0_1 < 0) (C : Cuts zn a0_1.natAbs D RZ DS H T PL z1 dd q cnt) (hpe : PL.toList.isEmpty = false) :
    Calls Tryz.prog 5 #[.agg #[.int .i64 kd, .int .i64 a0_1], .string a1] w fun e w' => e = .returned (.tuple #[.string (textB a0_1 zn a1), .int .i64 0]) ∧ Below w.heap.size w w' := by
  have hu23 := Tryz.underlying23
  have hu48 := Tryz.underlying38
  have HG := Aside0.mk hG
  clear hG
  have hmg : a0_1.natAbs ≤ 4611686018427387904 := by omega
  have c1 : decide (a0_1 < 0) = false := decide_eq_false hng
  have hI : strconv_Itoa.f a0_1 = some ⟨(decDigits a0_1.natAbs).toArray⟩ := itoa_mag (by omega) (by omega)
  rw [show (⟨(decDigits a0_1.natAbs).toArray⟩ : ByteArray) = D from (bytes_ext C.d).symm] at hI
  have hz1 := C.e1
  have hdd := C.e2
  have hmx := C.e3
  have hq := C.e4
  have q0 : decide (0 ≤ q) = true := decide_eq_true C.q0
  have q1 : decide (q ≤ (DS.size : Int)) = true := decide_eq_true C.q1
  have q01 : (0 ≤ q ∧ q ≤ (DS.size : Int)) = True := eq_true ⟨C.q0, C.q1⟩
  have hH := C.h
  have hT := C.t
  have ha1 : ∀ w, (Op.stringOp .add RZ D).run Tryz.prog w = .ok (.string DS) w := fun w => C.ds ▸ run_string_add_sum _ _ _ (by have := C.s0; omega)
  have s1 := C.s1
  have s2 := C.s2
  obtain ⟨X1, hX1⟩ : ∃ X1 : ByteArray, (⟨#[]⟩ : ByteArray) ++ H = X1 := ⟨_, rfl⟩
  have l1 : X1.data.toList = [] ++ H.data.toList := by rw [← hX1, app_list]
  have z2 : X1.size ≤ 1001 := by rw [← hX1, ByteArray.size_append]; show 0 + H.size ≤ 1001; omega
  have ha2 : ∀ w, (Op.stringOp .add ⟨#[]⟩ H).run Tryz.prog w = .ok (.string X1) w := fun w => hX1 ▸ run_string_add_sum _ _ _ (by show 0 + H.size ≤ _; omega)
  have fe : PL.toList.isEmpty = false := hpe
  obtain ⟨X2, hX2⟩ : ∃ X2 : ByteArray, (⟨#[46]⟩ : ByteArray) ++ PL = X2 := ⟨_, rfl⟩
  have l2 : X2.data.toList = [46] ++ PL.data.toList := by rw [← hX2, app_list]
  have z3 : X2.size ≤ 1001 := by rw [← hX2, ByteArray.size_append]; show 1 + PL.size ≤ 1001; omega
  have ha3 : ∀ w, (Op.stringOp .add ⟨#[46]⟩ PL).run Tryz.prog w = .ok (.string X2) w := fun w => hX2 ▸ run_string_add_sum _ _ _ (by show 1 + PL.size ≤ _; omega)
  obtain ⟨X3, hX3⟩ : ∃ X3 : ByteArray, X1 ++ X2 = X3 := ⟨_, rfl⟩
  have l3 : X3.data.toList = X1.data.toList ++ X2.data.toList := by rw [← hX3, app_list]
  have z4 : X3.size ≤ 2002 := by rw [← hX3, ByteArray.size_append]; omega
  have ha4 : ∀ w, (Op.stringOp .add X1 X2).run Tryz.prog w = .ok (.string X3) w := fun w => hX3 ▸ run_string_add_sum _ _ _ (by omega)
  obtain ⟨X5, hX5⟩ : ∃ X5 : ByteArray, X3 ++ (⟨#[32]⟩ : ByteArray) = X5 := ⟨_, rfl⟩
  have l5 : X5.data.toList = X3.data.toList ++ [32] := by rw [← hX5, app_list]
  have z6 : X5.size ≤ 2003 := by rw [← hX5, ByteArray.size_append]; show X3.size + 1 ≤ 2003; omega
  have ha5 : ∀ w, (Op.stringOp .add X3 ⟨#[32]⟩).run Tryz.prog w = .ok (.string X5) w := fun w => hX5 ▸ run_string_add_sum _ _ _ (by show X3.size + 1 ≤ _; omega)
  obtain ⟨X6, hX6⟩ : ∃ X6 : ByteArray, X5 ++ a1 = X6 := ⟨_, rfl⟩
  have ha6 : ∀ w, (Op.stringOp .add X5 a1).run Tryz.prog w = .ok (.string X6) w := fun w => hX6 ▸ run_string_add_sum _ _ _ (by omega)
  have hpl : PL.data.toList ≠ [] := by
    rw [empty_list] at hpe
    intro q; rw [q] at hpe; cases hpe
  have fin : textB a0_1 zn a1 = X6 := by
    apply bytes_ext
    rw [← hX6, app_list, l5, l3, l2, l1, C.hh]
    show decT (decide (a0_1 < 0)) (zn : Int).toNat a0_1.natAbs ++ 32 :: a1.data.toList = _
    rw [c1, Int.toNat_natCast]
    unfold decT
    rw [C.hp] at hpl ⊢
    rw [if_neg hpl]
    simp
  rw [fin]
  have HC := Aside0.mk C
  clear C l1 z2 s1 s2 l5 z6 hpl fin l2 z3 l3 z4 hX1 hX5 hX6 hX2 hX3
  go_enter Tryz.func5, Tryz.ntmps5
  go_upto_region 4 with (first
          | (go_at_call 12; refine (unit_Check.calls k kd a0_1 0 _ hc).mono ?_; rintro e w2 ⟨rfl, hb2⟩; have hbox2 := box_stays hbox1 hb2; have cz0 : w2.cell? ⟨gq, 0, none⟩ = some (.int .i64 kd) := (blk_cell hbox2 0).trans rfl; have cz1 : w2.cell? ⟨gq, 1, none⟩ = some (.int .i64 a0_1) := (blk_cell hbox2 1).trans rfl; have fz0 := blk_frozen hbox2 0; have fz1 := blk_frozen hbox2 1)
          | ((with_reducible refine gate_dst (N := 2) rfl ?_); refine box_event ?hg (N := 2) ?hd (cs := #[.int .i64 kd, .int .i64 a0_1]) (t := 23) ?hr ?_; (case hd => rfl); (case hg => rfl); (case hr => first | (go_simp; done) | (go_simp; rfl)); intro gq hgq w1 hbox1 hb1; have GQ := Aside0.mk hgq; clear hgq; have az0 : w1.cell? ⟨gq, 0, none⟩ = some (.int .i64 kd) := (blk_cell hbox1 0).trans rfl; have az1 : w1.cell? ⟨gq, 1, none⟩ = some (.int .i64 a0_1) := (blk_cell hbox1 1).trans rfl; have ez0 := blk_frozen hbox1 0; have ez1 := blk_frozen hbox1 1)
          | (go_at_call 13; refine (unit_units.calls _).mono ?_; rintro e w3 ⟨b, rfl, hm3, hb3, hle3⟩; have hlk := look_yes hm3 hn hu; have hbox3 := box_stays hbox2 hb3)
          | ((with_reducible refine gate_dst (N := 6) rfl ?_); refine box_event ?hg (N := 6) ?hd (cs := #[.int .i64 0, .int .i64 0]) (t := 38) ?hr ?_; (case hd => rfl); (case hg => rfl); (case hr => first | (go_simp; done) | (go_simp; rfl)); intro gu hgu w4 hu4 hb4; have GU := Aside0.mk hgu; clear hgu; have hbox4 := box_stays hbox3 hb4; have uz0 : w4.cell? ⟨gu, 0, none⟩ = some (.int .i64 0) := (blk_cell hu4 0).trans rfl; have uz1 : w4.cell? ⟨gu, 1, none⟩ = some (.int .i64 0) := (blk_cell hu4 1).trans rfl; have uf0 := blk_frozen hu4 0; have uf1 := blk_frozen hu4 1))
  have HBW : Aside0 (Below w.heap.size w ((w4.setCell ⟨gu, 0, none⟩ (.int .i64 kd)).setCell ⟨gu, 1, none⟩ (.int .i64 zn))) := ⟨below_step (below_step (below_step hb1 hb2) hb3) ((hb4.setCell (p := ⟨gu, 0, none⟩) (Nat.le_of_eq GU.out.symm) _).setCell (p := ⟨gu, 1, none⟩) (Nat.le_of_eq GU.out.symm) _)⟩
  have HU : Aside0 (((w4.setCell ⟨gu, 0, none⟩ (.int .i64 kd)).setCell ⟨gu, 1, none⟩ (.int .i64 zn)).heap[gu]? = some (.cells #[.int .i64 kd, .int .i64 zn] 38 (0, 0))) := ⟨blk_put (cs := #[.int .i64 kd, .int .i64 0]) (blk_put (cs := #[.int .i64 0, .int .i64 0]) hu4 0 _ rfl) 1 _ rfl⟩
  have HQ : Aside0 (((w4.setCell ⟨gu, 0, none⟩ (.int .i64 kd)).setCell ⟨gu, 1, none⟩ (.int .i64 zn)).heap[gq]? = some (.cells #[.int .i64 kd, .int .i64 a0_1] 23 (0, 0))) := ⟨box_stays hbox3 ((hb4.setCell (p := ⟨gu, 0, none⟩) (Nat.le_of_eq GU.out.symm) _).setCell (p := ⟨gu, 1, none⟩) (Nat.le_of_eq GU.out.symm) _)⟩
  generalize (w4.setCell ⟨gu, 0, none⟩ (.int .i64 kd)).setCell ⟨gu, 1, none⟩ (.int .i64 zn) = w5 at HBW HU HQ ⊢
  clear uz0 uz1 uf0 uf1 hu4 hbox4 cz0 cz1 fz0 fz1 az0 az1 ez0 ez1
  have vz0 : w5.cell? ⟨gu, 0, none⟩ = some (.int .i64 kd) := (blk_cell HU.out 0).trans rfl
  have vf0 := blk_frozen HU.out 0
  have qz0 : w5.cell? ⟨gq, 0, none⟩ = some (.int .i64 kd) := (blk_cell HQ.out 0).trans rfl
  have qf0 := blk_frozen HQ.out 0
  have qz1 : w5.cell? ⟨gq, 1, none⟩ = some (.int .i64 a0_1) := (blk_cell HQ.out 1).trans rfl
  have qf1 := blk_frozen HQ.out 1
  have ckb : (kd != kd) = false := bne_eq_false_iff_eq.mpr rfl
  go_wp2_with (first
    | (go_at_call 14; refine (strconv_Itoa.calls _ _ _ (GI.below HG.out HBW.out) hI).mono ?_; rintro e w6 ⟨rfl, hb6⟩; have HU6 := box_stays HU.out hb6; have u6 : w6.cell? ⟨gu, 1, none⟩ = some (.int .i64 zn) := (blk_cell HU6 1).trans rfl; have uf6 := blk_frozen HU6 1)
    | (go_at_call 15; (try rw [hmx]); refine (rep_zero cnt HC.out.cl _).mono ?_; rw [show (⟨(List.replicate cnt (48 : UInt8)).toArray⟩ : ByteArray) = RZ from (bytes_ext HC.out.rz).symm]; rintro e w7 ⟨rfl, hb7⟩; have HU7 := box_stays HU6 hb7; have u7 : w7.cell? ⟨gu, 1, none⟩ = some (.int .i64 zn) := (blk_cell HU7 1).trans rfl; have uf7 := blk_frozen HU7 1)
    | (go_at_call 16; refine (strings_TrimRight.calls _ _ _ _ HC.out.pl).mono ?_; rintro e w8 ⟨rfl, hb8⟩)
    | go_in)
  go_ret2
  exact ⟨rfl, below_step (below_step (below_step HBW.out hb6) hb7) hb8⟩
set_option maxHeartbeats 8000000 in
set_option maxRecDepth 100000 in
theorem unit_Print.t2 (k : Nat) (kd a0_1 : Int) (a1 : ByteArray) (w : World) (hG : GI w) (zn : Nat) (D RZ DS H T PL : ByteArray) (z1 dd q : Int) (cnt : Nat) (hc : unit_Check.f k kd a0_1 = some 0) (hn : a1.size ≤ 1000) (hlo : -4611686018427387904 ≤ a0_1) (hhi : a0_1 ≤ 4611686018427387904) (hu : unitAt a1.data.toList = some (kd, (zn : Int))) (hng : a0_1 < 0) (C : Cuts zn a0_1.natAbs D RZ DS H T PL z1 dd q cnt) (hpe : PL.toList.isEmpty = true) :
    Calls Tryz.prog 5 #[.agg #[.int .i64 kd, .int .i64 a0_1], .string a1] w fun e w' => e = .returned (.tuple #[.string (textB a0_1 zn a1), .int .i64 0]) ∧ Below w.heap.size w w' := by
  have hu23 := Tryz.underlying23
  have hu48 := Tryz.underlying38
  have HG := Aside0.mk hG
  clear hG
  have hmg : a0_1.natAbs ≤ 4611686018427387904 := by omega
  have c1 : decide (a0_1 < 0) = true := decide_eq_true hng
  have hmm : wrap64 (-a0_1) = -a0_1 := w64 (by omega) (by omega)
  have hI : strconv_Itoa.f (-a0_1) = some ⟨(decDigits a0_1.natAbs).toArray⟩ := by rw [itoa_mag (by omega) (by omega), show (-a0_1).natAbs = a0_1.natAbs by omega]
  rw [show (⟨(decDigits a0_1.natAbs).toArray⟩ : ByteArray) = D from (bytes_ext C.d).symm] at hI
  have hz1 := C.e1
  have hdd := C.e2
  have hmx := C.e3
  have hq := C.e4
  have q0 : decide (0 ≤ q) = true := decide_eq_true C.q0
  have q1 : decide (q ≤ (DS.size : Int)) = true := decide_eq_true C.q1
  have q01 : (0 ≤ q ∧ q ≤ (DS.size : Int)) = True := eq_true ⟨C.q0, C.q1⟩
  have hH := C.h
  have hT := C.t
  have ha1 : ∀ w, (Op.stringOp .add RZ D).run Tryz.prog w = .ok (.string DS) w := fun w => C.ds ▸ run_string_add_sum _ _ _ (by have := C.s0; omega)
  have s1 := C.s1
  have s2 := C.s2
  obtain ⟨X1, hX1⟩ : ∃ X1 : ByteArray, (⟨#[45]⟩ : ByteArray) ++ H = X1 := ⟨_, rfl⟩
  have l1 : X1.data.toList = [45] ++ H.data.toList := by rw [← hX1, app_list]
  have z2 : X1.size ≤ 1001 := by rw [← hX1, ByteArray.size_append]; show 1 + H.size ≤ 1001; omega
  have ha2 : ∀ w, (Op.stringOp .add ⟨#[45]⟩ H).run Tryz.prog w = .ok (.string X1) w := fun w => hX1 ▸ run_string_add_sum _ _ _ (by show 1 + H.size ≤ _; omega)
  have fe : PL.toList.isEmpty = true := hpe
  obtain ⟨X5, hX5⟩ : ∃ X5 : ByteArray, X1 ++ (⟨#[32]⟩ : ByteArray) = X5 := ⟨_, rfl⟩
  have l5 : X5.data.toList = X1.data.toList ++ [32] := by rw [← hX5, app_list]
  have z6 : X5.size ≤ 2003 := by rw [← hX5, ByteArray.size_append]; show X1.size + 1 ≤ 2003; omega
  have ha5 : ∀ w, (Op.stringOp .add X1 ⟨#[32]⟩).run Tryz.prog w = .ok (.string X5) w := fun w => hX5 ▸ run_string_add_sum _ _ _ (by show X1.size + 1 ≤ _; omega)
  obtain ⟨X6, hX6⟩ : ∃ X6 : ByteArray, X5 ++ a1 = X6 := ⟨_, rfl⟩
  have ha6 : ∀ w, (Op.stringOp .add X5 a1).run Tryz.prog w = .ok (.string X6) w := fun w => hX6 ▸ run_string_add_sum _ _ _ (by omega)
  have hpl : PL.data.toList = [] := by
    rw [empty_list] at hpe
    exact List.isEmpty_iff.1 hpe
  have fin : textB a0_1 zn a1 = X6 := by
    apply bytes_ext
    rw [← hX6, app_list, l5, l1, C.hh]
    show decT (decide (a0_1 < 0)) (zn : Int).toNat a0_1.natAbs ++ 32 :: a1.data.toList = _
    rw [c1, Int.toNat_natCast]
    unfold decT
    rw [C.hp] at hpl
    rw [if_pos hpl]
    simp
  rw [fin]
  have HC := Aside0.mk C
  clear C l1 z2 s1 s2 l5 z6 hpl fin hX1 hX5 hX6
  go_enter Tryz.func5, Tryz.ntmps5
  go_upto_region 4 with (first
          | (go_at_call 12; refine (unit_Check.calls k kd a0_1 0 _ hc).mono ?_; rintro e w2 ⟨rfl, hb2⟩; have hbox2 := box_stays hbox1 hb2; have cz0 : w2.cell? ⟨gq, 0, none⟩ = some (.int .i64 kd) := (blk_cell hbox2 0).trans rfl; have cz1 : w2.cell? ⟨gq, 1, none⟩ = some (.int .i64 a0_1) := (blk_cell hbox2 1).trans rfl; have fz0 := blk_frozen hbox2 0; have fz1 := blk_frozen hbox2 1)
          | ((with_reducible refine gate_dst (N := 2) rfl ?_); refine box_event ?hg (N := 2) ?hd (cs := #[.int .i64 kd, .int .i64 a0_1]) (t := 23) ?hr ?_; (case hd => rfl); (case hg => rfl); (case hr => first | (go_simp; done) | (go_simp; rfl)); intro gq hgq w1 hbox1 hb1; have GQ := Aside0.mk hgq; clear hgq; have az0 : w1.cell? ⟨gq, 0, none⟩ = some (.int .i64 kd) := (blk_cell hbox1 0).trans rfl; have az1 : w1.cell? ⟨gq, 1, none⟩ = some (.int .i64 a0_1) := (blk_cell hbox1 1).trans rfl; have ez0 := blk_frozen hbox1 0; have ez1 := blk_frozen hbox1 1)
          | (go_at_call 13; refine (unit_units.calls _).mono ?_; rintro e w3 ⟨b, rfl, hm3, hb3, hle3⟩; have hlk := look_yes hm3 hn hu; have hbox3 := box_stays hbox2 hb3)
          | ((with_reducible refine gate_dst (N := 6) rfl ?_); refine box_event ?hg (N := 6) ?hd (cs := #[.int .i64 0, .int .i64 0]) (t := 38) ?hr ?_; (case hd => rfl); (case hg => rfl); (case hr => first | (go_simp; done) | (go_simp; rfl)); intro gu hgu w4 hu4 hb4; have GU := Aside0.mk hgu; clear hgu; have hbox4 := box_stays hbox3 hb4; have uz0 : w4.cell? ⟨gu, 0, none⟩ = some (.int .i64 0) := (blk_cell hu4 0).trans rfl; have uz1 : w4.cell? ⟨gu, 1, none⟩ = some (.int .i64 0) := (blk_cell hu4 1).trans rfl; have uf0 := blk_frozen hu4 0; have uf1 := blk_frozen hu4 1))
  have HBW : Aside0 (Below w.heap.size w ((w4.setCell ⟨gu, 0, none⟩ (.int .i64 kd)).setCell ⟨gu, 1, none⟩ (.int .i64 zn))) := ⟨below_step (below_step (below_step hb1 hb2) hb3) ((hb4.setCell (p := ⟨gu, 0, none⟩) (Nat.le_of_eq GU.out.symm) _).setCell (p := ⟨gu, 1, none⟩) (Nat.le_of_eq GU.out.symm) _)⟩
  have HU : Aside0 (((w4.setCell ⟨gu, 0, none⟩ (.int .i64 kd)).setCell ⟨gu, 1, none⟩ (.int .i64 zn)).heap[gu]? = some (.cells #[.int .i64 kd, .int .i64 zn] 38 (0, 0))) := ⟨blk_put (cs := #[.int .i64 kd, .int .i64 0]) (blk_put (cs := #[.int .i64 0, .int .i64 0]) hu4 0 _ rfl) 1 _ rfl⟩
  have HQ : Aside0 (((w4.setCell ⟨gu, 0, none⟩ (.int .i64 kd)).setCell ⟨gu, 1, none⟩ (.int .i64 zn)).heap[gq]? = some (.cells #[.int .i64 kd, .int .i64 a0_1] 23 (0, 0))) := ⟨box_stays hbox3 ((hb4.setCell (p := ⟨gu, 0, none⟩) (Nat.le_of_eq GU.out.symm) _).setCell (p := ⟨gu, 1, none⟩) (Nat.le_of_eq GU.out.symm) _)⟩
  generalize (w4.setCell ⟨gu, 0, none⟩ (.int .i64 kd)).setCell ⟨gu, 1, none⟩ (.int .i64 zn) = w5 at HBW HU HQ ⊢
  clear uz0 uz1 uf0 uf1 hu4 hbox4 cz0 cz1 fz0 fz1 az0 az1 ez0 ez1
  have vz0 : w5.cell? ⟨gu, 0, none⟩ = some (.int .i64 kd) := (blk_cell HU.out 0).trans rfl
  have vf0 := blk_frozen HU.out 0
  have qz0 : w5.cell? ⟨gq, 0, none⟩ = some (.int .i64 kd) := (blk_cell HQ.out 0).trans rfl
  have qf0 := blk_frozen HQ.out 0
  have qz1 : w5.cell? ⟨gq, 1, none⟩ = some (.int .i64 a0_1) := (blk_cell HQ.out 1).trans rfl
  have qf1 := blk_frozen HQ.out 1
  have ckb : (kd != kd) = false := bne_eq_false_iff_eq.mpr rfl
  go_wp2_with (first
    | (go_at_call 14; refine (strconv_Itoa.calls _ _ _ (GI.below HG.out HBW.out) hI).mono ?_; rintro e w6 ⟨rfl, hb6⟩; have HU6 := box_stays HU.out hb6; have u6 : w6.cell? ⟨gu, 1, none⟩ = some (.int .i64 zn) := (blk_cell HU6 1).trans rfl; have uf6 := blk_frozen HU6 1)
    | (go_at_call 15; (try rw [hmx]); refine (rep_zero cnt HC.out.cl _).mono ?_; rw [show (⟨(List.replicate cnt (48 : UInt8)).toArray⟩ : ByteArray) = RZ from (bytes_ext HC.out.rz).symm]; rintro e w7 ⟨rfl, hb7⟩; have HU7 := box_stays HU6 hb7; have u7 : w7.cell? ⟨gu, 1, none⟩ = some (.int .i64 zn) := (blk_cell HU7 1).trans rfl; have uf7 := blk_frozen HU7 1)
    | (go_at_call 16; refine (strings_TrimRight.calls _ _ _ _ HC.out.pl).mono ?_; rintro e w8 ⟨rfl, hb8⟩)
    | go_in)
  go_ret2
  exact ⟨rfl, below_step (below_step (below_step HBW.out hb6) hb7) hb8⟩
set_option maxHeartbeats 8000000 in
set_option maxRecDepth 100000 in
theorem unit_Print.t3 (k : Nat) (kd a0_1 : Int) (a1 : ByteArray) (w : World) (hG : GI w) (zn : Nat) (D RZ DS H T PL : ByteArray) (z1 dd q : Int) (cnt : Nat) (hc : unit_Check.f k kd a0_1 = some 0) (hn : a1.size ≤ 1000) (hlo : -4611686018427387904 ≤ a0_1) (hhi : a0_1 ≤ 4611686018427387904) (hu : unitAt a1.data.toList = some (kd, (zn : Int))) (hng : a0_1 < 0) (C : Cuts zn a0_1.natAbs D RZ DS H T PL z1 dd q cnt) (hpe : PL.toList.isEmpty = false) :
    Calls Tryz.prog 5 #[.agg #[.int .i64 kd, .int .i64 a0_1], .string a1] w fun e w' => e = .returned (.tuple #[.string (textB a0_1 zn a1), .int .i64 0]) ∧ Below w.heap.size w w' := by
  have hu23 := Tryz.underlying23
  have hu48 := Tryz.underlying38
  have HG := Aside0.mk hG
  clear hG
  have hmg : a0_1.natAbs ≤ 4611686018427387904 := by omega
  have c1 : decide (a0_1 < 0) = true := decide_eq_true hng
  have hmm : wrap64 (-a0_1) = -a0_1 := w64 (by omega) (by omega)
  have hI : strconv_Itoa.f (-a0_1) = some ⟨(decDigits a0_1.natAbs).toArray⟩ := by rw [itoa_mag (by omega) (by omega), show (-a0_1).natAbs = a0_1.natAbs by omega]
  rw [show (⟨(decDigits a0_1.natAbs).toArray⟩ : ByteArray) = D from (bytes_ext C.d).symm] at hI
  have hz1 := C.e1
  have hdd := C.e2
  have hmx := C.e3
  have hq := C.e4
  have q0 : decide (0 ≤ q) = true := decide_eq_true C.q0
  have q1 : decide (q ≤ (DS.size : Int)) = true := decide_eq_true C.q1
  have q01 : (0 ≤ q ∧ q ≤ (DS.size : Int)) = True := eq_true ⟨C.q0, C.q1⟩
  have hH := C.h
  have hT := C.t
  have ha1 : ∀ w, (Op.stringOp .add RZ D).run Tryz.prog w = .ok (.string DS) w := fun w => C.ds ▸ run_string_add_sum _ _ _ (by have := C.s0; omega)
  have s1 := C.s1
  have s2 := C.s2
  obtain ⟨X1, hX1⟩ : ∃ X1 : ByteArray, (⟨#[45]⟩ : ByteArray) ++ H = X1 := ⟨_, rfl⟩
  have l1 : X1.data.toList = [45] ++ H.data.toList := by rw [← hX1, app_list]
  have z2 : X1.size ≤ 1001 := by rw [← hX1, ByteArray.size_append]; show 1 + H.size ≤ 1001; omega
  have ha2 : ∀ w, (Op.stringOp .add ⟨#[45]⟩ H).run Tryz.prog w = .ok (.string X1) w := fun w => hX1 ▸ run_string_add_sum _ _ _ (by show 1 + H.size ≤ _; omega)
  have fe : PL.toList.isEmpty = false := hpe
  obtain ⟨X2, hX2⟩ : ∃ X2 : ByteArray, (⟨#[46]⟩ : ByteArray) ++ PL = X2 := ⟨_, rfl⟩
  have l2 : X2.data.toList = [46] ++ PL.data.toList := by rw [← hX2, app_list]
  have z3 : X2.size ≤ 1001 := by rw [← hX2, ByteArray.size_append]; show 1 + PL.size ≤ 1001; omega
  have ha3 : ∀ w, (Op.stringOp .add ⟨#[46]⟩ PL).run Tryz.prog w = .ok (.string X2) w := fun w => hX2 ▸ run_string_add_sum _ _ _ (by show 1 + PL.size ≤ _; omega)
  obtain ⟨X3, hX3⟩ : ∃ X3 : ByteArray, X1 ++ X2 = X3 := ⟨_, rfl⟩
  have l3 : X3.data.toList = X1.data.toList ++ X2.data.toList := by rw [← hX3, app_list]
  have z4 : X3.size ≤ 2002 := by rw [← hX3, ByteArray.size_append]; omega
  have ha4 : ∀ w, (Op.stringOp .add X1 X2).run Tryz.prog w = .ok (.string X3) w := fun w => hX3 ▸ run_string_add_sum _ _ _ (by omega)
  obtain ⟨X5, hX5⟩ : ∃ X5 : ByteArray, X3 ++ (⟨#[32]⟩ : ByteArray) = X5 := ⟨_, rfl⟩
  have l5 : X5.data.toList = X3.data.toList ++ [32] := by rw [← hX5, app_list]
  have z6 : X5.size ≤ 2003 := by rw [← hX5, ByteArray.size_append]; show X3.size + 1 ≤ 2003; omega
  have ha5 : ∀ w, (Op.stringOp .add X3 ⟨#[32]⟩).run Tryz.prog w = .ok (.string X5) w := fun w => hX5 ▸ run_string_add_sum _ _ _ (by show X3.size + 1 ≤ _; omega)
  obtain ⟨X6, hX6⟩ : ∃ X6 : ByteArray, X5 ++ a1 = X6 := ⟨_, rfl⟩
  have ha6 : ∀ w, (Op.stringOp .add X5 a1).run Tryz.prog w = .ok (.string X6) w := fun w => hX6 ▸ run_string_add_sum _ _ _ (by omega)
  have hpl : PL.data.toList ≠ [] := by
    rw [empty_list] at hpe
    intro q; rw [q] at hpe; cases hpe
  have fin : textB a0_1 zn a1 = X6 := by
    apply bytes_ext
    rw [← hX6, app_list, l5, l3, l2, l1, C.hh]
    show decT (decide (a0_1 < 0)) (zn : Int).toNat a0_1.natAbs ++ 32 :: a1.data.toList = _
    rw [c1, Int.toNat_natCast]
    unfold decT
    rw [C.hp] at hpl ⊢
    rw [if_neg hpl]
    simp
  rw [fin]
  have HC := Aside0.mk C
  clear C l1 z2 s1 s2 l5 z6 hpl fin l2 z3 l3 z4 hX1 hX5 hX6 hX2 hX3
  go_enter Tryz.func5, Tryz.ntmps5
  go_upto_region 4 with (first
          | (go_at_call 12; refine (unit_Check.calls k kd a0_1 0 _ hc).mono ?_; rintro e w2 ⟨rfl, hb2⟩; have hbox2 := box_stays hbox1 hb2; have cz0 : w2.cell? ⟨gq, 0, none⟩ = some (.int .i64 kd) := (blk_cell hbox2 0).trans rfl; have cz1 : w2.cell? ⟨gq, 1, none⟩ = some (.int .i64 a0_1) := (blk_cell hbox2 1).trans rfl; have fz0 := blk_frozen hbox2 0; have fz1 := blk_frozen hbox2 1)
          | ((with_reducible refine gate_dst (N := 2) rfl ?_); refine box_event ?hg (N := 2) ?hd (cs := #[.int .i64 kd, .int .i64 a0_1]) (t := 23) ?hr ?_; (case hd => rfl); (case hg => rfl); (case hr => first | (go_simp; done) | (go_simp; rfl)); intro gq hgq w1 hbox1 hb1; have GQ := Aside0.mk hgq; clear hgq; have az0 : w1.cell? ⟨gq, 0, none⟩ = some (.int .i64 kd) := (blk_cell hbox1 0).trans rfl; have az1 : w1.cell? ⟨gq, 1, none⟩ = some (.int .i64 a0_1) := (blk_cell hbox1 1).trans rfl; have ez0 := blk_frozen hbox1 0; have ez1 := blk_frozen hbox1 1)
          | (go_at_call 13; refine (unit_units.calls _).mono ?_; rintro e w3 ⟨b, rfl, hm3, hb3, hle3⟩; have hlk := look_yes hm3 hn hu; have hbox3 := box_stays hbox2 hb3)
          | ((with_reducible refine gate_dst (N := 6) rfl ?_); refine box_event ?hg (N := 6) ?hd (cs := #[.int .i64 0, .int .i64 0]) (t := 38) ?hr ?_; (case hd => rfl); (case hg => rfl); (case hr => first | (go_simp; done) | (go_simp; rfl)); intro gu hgu w4 hu4 hb4; have GU := Aside0.mk hgu; clear hgu; have hbox4 := box_stays hbox3 hb4; have uz0 : w4.cell? ⟨gu, 0, none⟩ = some (.int .i64 0) := (blk_cell hu4 0).trans rfl; have uz1 : w4.cell? ⟨gu, 1, none⟩ = some (.int .i64 0) := (blk_cell hu4 1).trans rfl; have uf0 := blk_frozen hu4 0; have uf1 := blk_frozen hu4 1))
  have HBW : Aside0 (Below w.heap.size w ((w4.setCell ⟨gu, 0, none⟩ (.int .i64 kd)).setCell ⟨gu, 1, none⟩ (.int .i64 zn))) := ⟨below_step (below_step (below_step hb1 hb2) hb3) ((hb4.setCell (p := ⟨gu, 0, none⟩) (Nat.le_of_eq GU.out.symm) _).setCell (p := ⟨gu, 1, none⟩) (Nat.le_of_eq GU.out.symm) _)⟩
  have HU : Aside0 (((w4.setCell ⟨gu, 0, none⟩ (.int .i64 kd)).setCell ⟨gu, 1, none⟩ (.int .i64 zn)).heap[gu]? = some (.cells #[.int .i64 kd, .int .i64 zn] 38 (0, 0))) := ⟨blk_put (cs := #[.int .i64 kd, .int .i64 0]) (blk_put (cs := #[.int .i64 0, .int .i64 0]) hu4 0 _ rfl) 1 _ rfl⟩
  have HQ : Aside0 (((w4.setCell ⟨gu, 0, none⟩ (.int .i64 kd)).setCell ⟨gu, 1, none⟩ (.int .i64 zn)).heap[gq]? = some (.cells #[.int .i64 kd, .int .i64 a0_1] 23 (0, 0))) := ⟨box_stays hbox3 ((hb4.setCell (p := ⟨gu, 0, none⟩) (Nat.le_of_eq GU.out.symm) _).setCell (p := ⟨gu, 1, none⟩) (Nat.le_of_eq GU.out.symm) _)⟩
  generalize (w4.setCell ⟨gu, 0, none⟩ (.int .i64 kd)).setCell ⟨gu, 1, none⟩ (.int .i64 zn) = w5 at HBW HU HQ ⊢
  clear uz0 uz1 uf0 uf1 hu4 hbox4 cz0 cz1 fz0 fz1 az0 az1 ez0 ez1
  have vz0 : w5.cell? ⟨gu, 0, none⟩ = some (.int .i64 kd) := (blk_cell HU.out 0).trans rfl
  have vf0 := blk_frozen HU.out 0
  have qz0 : w5.cell? ⟨gq, 0, none⟩ = some (.int .i64 kd) := (blk_cell HQ.out 0).trans rfl
  have qf0 := blk_frozen HQ.out 0
  have qz1 : w5.cell? ⟨gq, 1, none⟩ = some (.int .i64 a0_1) := (blk_cell HQ.out 1).trans rfl
  have qf1 := blk_frozen HQ.out 1
  have ckb : (kd != kd) = false := bne_eq_false_iff_eq.mpr rfl
  go_wp2_with (first
    | (go_at_call 14; refine (strconv_Itoa.calls _ _ _ (GI.below HG.out HBW.out) hI).mono ?_; rintro e w6 ⟨rfl, hb6⟩; have HU6 := box_stays HU.out hb6; have u6 : w6.cell? ⟨gu, 1, none⟩ = some (.int .i64 zn) := (blk_cell HU6 1).trans rfl; have uf6 := blk_frozen HU6 1)
    | (go_at_call 15; (try rw [hmx]); refine (rep_zero cnt HC.out.cl _).mono ?_; rw [show (⟨(List.replicate cnt (48 : UInt8)).toArray⟩ : ByteArray) = RZ from (bytes_ext HC.out.rz).symm]; rintro e w7 ⟨rfl, hb7⟩; have HU7 := box_stays HU6 hb7; have u7 : w7.cell? ⟨gu, 1, none⟩ = some (.int .i64 zn) := (blk_cell HU7 1).trans rfl; have uf7 := blk_frozen HU7 1)
    | (go_at_call 16; refine (strings_TrimRight.calls _ _ _ _ HC.out.pl).mono ?_; rintro e w8 ⟨rfl, hb8⟩)
    | go_in)
  go_ret2
  exact ⟨rfl, below_step (below_step (below_step HBW.out hb6) hb7) hb8⟩
theorem unit_Print.calls (k : Nat) (a0_0 a0_1 : Int) (a1 : ByteArray) (r1 : ByteArray) (r2 : Int) (w : World) (hG : GI w) (h : unit_Print.f k a0_0 a0_1 a1 = some (r1, r2)) :
    Calls Tryz.prog 5 #[.agg #[.int .i64 a0_0, .int .i64 a0_1], .string a1] w fun e w' => e = .returned (.tuple #[.string r1, .int .i64 r2]) ∧ Below w.heap.size w w' := by
  unfold unit_Print.f at h
  obtain ⟨e0, hc, h⟩ := Option.bind_eq_some_iff.mp h
  by_cases c0 : e0 = 0
  · rw [if_pos c0] at h
    split at h
    · rename_i hk
      cases hu : unitAt a1.data.toList with
      | none =>
        rw [hu] at h
        simp only [Option.some.injEq, Prod.mk.injEq] at h
        obtain ⟨rfl, rfl⟩ := h
        exact unit_Print.c2 k a0_0 a0_1 a1 w hG e0 hc c0 hk.2.1 hu
      | some p =>
        obtain ⟨kd, z⟩ := p
        rw [hu] at h
        have h : (if kd = a0_0 then some (textB a0_1 z a1, 0) else some (⟨#[]⟩, 10) : Option (ByteArray × Int)) = some (r1, r2) := h
        by_cases ck : kd = a0_0
        · rw [if_pos ck] at h
          simp only [Option.some.injEq, Prod.mk.injEq] at h
          obtain ⟨rfl, rfl⟩ := h
          subst ck c0
          have hsm := unit_small hu
          obtain ⟨zn, rfl⟩ : ∃ zn : Nat, z = (zn : Int) := ⟨z.toNat, by have := hsm.2.1; have : 0 ≤ z := this; omega⟩
          obtain ⟨D, RZ, DS, H, T, PL, z1, dd, q, cnt, C⟩ := cuts_of zn a0_1.natAbs (by have : (zn : Int) ≤ 8 := hsm.2.2; omega) (by omega)
          by_cases hng : a0_1 < 0
          · cases hpe : PL.toList.isEmpty with
            | true => exact unit_Print.t2 k kd a0_1 a1 w hG zn D RZ DS H T PL z1 dd q cnt hc hk.2.1 hk.2.2.1 hk.2.2.2 hu hng C hpe
            | false => exact unit_Print.t3 k kd a0_1 a1 w hG zn D RZ DS H T PL z1 dd q cnt hc hk.2.1 hk.2.2.1 hk.2.2.2 hu hng C hpe
          · cases hpe : PL.toList.isEmpty with
            | true => exact unit_Print.t0 k kd a0_1 a1 w hG zn D RZ DS H T PL z1 dd q cnt hc hk.2.1 hk.2.2.1 hk.2.2.2 hu hng C hpe
            | false => exact unit_Print.t1 k kd a0_1 a1 w hG zn D RZ DS H T PL z1 dd q cnt hc hk.2.1 hk.2.2.1 hk.2.2.2 hu hng C hpe
        · rw [if_neg ck] at h
          simp only [Option.some.injEq, Prod.mk.injEq] at h
          obtain ⟨rfl, rfl⟩ := h
          exact unit_Print.c3 k a0_0 a0_1 a1 w hG e0 hc c0 hk.2.1 kd z hu ck
    · cases h
  · rw [if_neg c0] at h
    simp only [Option.some.injEq, Prod.mk.injEq] at h
    obtain ⟨rfl, rfl⟩ := h
    exact unit_Print.c1 k a0_0 a0_1 a1 w hG e0 hc c0
end Go.Proofs.YtmjglehdckgcnaaGreatDoor.Pr
namespace Go.Proofs.YtmjglehdckgcnaaGreatDoor.Pr
open Go Go.RowKit Go.Maps Go.WideMaps Go.Lib Go.Proofs.YtmjglehdckgcnaaGreatDoorW.PrintWords Go.Proofs.YtmjglehdckgcnaaGreatDoorW.PrintLast Go.Proofs.YtmjglehdckgcnaaGreatDoorW.PrintMore Go.Proofs.YtmjglehdckgcnaaGreatDoor.X Go.Proofs.YtmjglehdckgcnaaGreatDoor.TX Go.Proofs.YtmjglehdckgcnaaGreatDoor.PL
set_option maxHeartbeats 8000000 in
set_option maxRecDepth 100000 in
theorem unit_Parse.c1 (k : Nat) (a0 : ByteArray) (w : World) (hG : GI w) (hbig : (a0.size : Int) > 64) :
    Calls Tryz.prog 7 #[.string a0] w fun e w' => e = .returned (.tuple #[.agg #[.int .i64 0, .int .i64 0], .int .i64 8]) ∧ Below w.heap.size w w' := by
  have HG := Aside0.mk hG
  clear hG
  have hu23 := Tryz.underlying23
  have hu48 := Tryz.underlying38
  have c1 : decide ((a0.size : Int) > 64) = true := decide_eq_true hbig
  go_enter Tryz.func7, Tryz.ntmps7
  go_wp2_with (first
    | ((with_reducible refine gate_dst (N := 2) rfl ?_); refine box_event ?hg (N := 2) ?hd (cs := #[.int .i64 0, .int .i64 0]) (t := 23) ?hr ?_; (case hd => rfl); (case hg => rfl); (case hr => first | (go_simp; done) | (go_simp; rfl)); intro gr hgr w1 hbox1 hb1; have GR := Aside0.mk hgr; clear hgr; have ra0 : w1.cell? ⟨gr, 0, none⟩ = some (.int .i64 0) := (blk_cell hbox1 0).trans rfl; have ra1 : w1.cell? ⟨gr, 1, none⟩ = some (.int .i64 0) := (blk_cell hbox1 1).trans rfl; have ra2 := blk_frozen hbox1 0; have ra3 := blk_frozen hbox1 1; have HB1 := Aside0.mk hb1; have HG1 := Aside0.mk (GI.below HG.out hb1))
    | go_in)
  (try simp only [Exit.inBlock, Exit.then])
  refine bodyPost_ret (results_ct rfl _ _ gr 23 #[.int .i64 0, .int .i64 0] (0, 0) _ rfl (blk_put (cs := #[.int .i64 0, .int .i64 0]) (blk_put (cs := #[.int .i64 0, .int .i64 0]) hbox1 0 _ rfl) 1 _ rfl) Tryz.underlying23 rfl (by kernel_rfl)) rfl ?_
  exact ⟨rfl, ((HB1.out).setCell (p := ⟨gr, 0, none⟩) (Nat.le_of_eq GR.out.symm) _).setCell (p := ⟨gr, 1, none⟩) (Nat.le_of_eq GR.out.symm) _⟩
set_option maxHeartbeats 8000000 in
set_option maxRecDepth 100000 in
theorem unit_Parse.c2 (k : Nat) (a0 : ByteArray) (w : World) (hG : GI w) (hle : ¬ (a0.size : Int) > 64) (hd nm : ByteArray) (fd : Bool) (hct : strings_Cut.f a0 ⟨#[32]⟩ = some (hd, nm, fd)) (hn : nm.size ≤ 1000) (al : ByteArray) (pn : Int) (mi ok : Bool) (hnum : unit_number.f hd = some (al, pn, mi, ok)) (hu : unitAt nm.data.toList = none) :
    Calls Tryz.prog 7 #[.string a0] w fun e w' => e = .returned (.tuple #[.agg #[.int .i64 0, .int .i64 0], .int .i64 3]) ∧ Below w.heap.size w w' := by
  have HG := Aside0.mk hG
  clear hG
  have hu23 := Tryz.underlying23
  have hu48 := Tryz.underlying38
  have c1 : decide ((a0.size : Int) > 64) = false := decide_eq_false hle
  go_enter Tryz.func7, Tryz.ntmps7
  go_upto_region 5 with (first
    | ((with_reducible refine gate_dst (N := 2) rfl ?_); refine box_event ?hg (N := 2) ?hd (cs := #[.int .i64 0, .int .i64 0]) (t := 23) ?hr ?_; (case hd => rfl); (case hg => rfl); (case hr => first | (go_simp; done) | (go_simp; rfl)); intro gr hgr w1 hbox1 hb1; have GR := Aside0.mk hgr; clear hgr; have ra0 : w1.cell? ⟨gr, 0, none⟩ = some (.int .i64 0) := (blk_cell hbox1 0).trans rfl; have ra1 : w1.cell? ⟨gr, 1, none⟩ = some (.int .i64 0) := (blk_cell hbox1 1).trans rfl; have ra2 := blk_frozen hbox1 0; have ra3 := blk_frozen hbox1 1; have HB1 := Aside0.mk hb1; have HG1 := Aside0.mk (GI.below HG.out hb1))
    | (go_at_call 20; refine (strings_Cut.calls _ _ _ _ _ _ HG1.out hct).mono ?_; rintro e w2 ⟨rfl, hb2⟩; have hbox2 := box_stays hbox1 hb2)
    | (go_at_call 13; refine (unit_units.calls _).mono ?_; rintro e w3 ⟨b, rfl, hm3, hb3, hle3⟩; have hlk := look_no hm3 hn hu; have hbox3 := box_stays hbox2 hb3)
    | ((with_reducible refine gate_dst (N := 7) rfl ?_); refine box_event ?hg (N := 7) ?hd (cs := #[.int .i64 0, .int .i64 0]) (t := 38) ?hr ?_; (case hd => rfl); (case hg => rfl); (case hr => first | (go_simp; done) | (go_simp; rfl)); intro gu hgu w4 hu4 hb4; have GU := Aside0.mk hgu; clear hgu; have ua0 : w4.cell? ⟨gu, 0, none⟩ = some (.int .i64 0) := (blk_cell hu4 0).trans rfl; have ua1 : w4.cell? ⟨gu, 1, none⟩ = some (.int .i64 0) := (blk_cell hu4 1).trans rfl; have ua2 := blk_frozen hu4 0; have ua3 := blk_frozen hu4 1))
  have HBW : Aside0 (Below w.heap.size w ((w4.setCell ⟨gu, 0, none⟩ (.int .i64 0)).setCell ⟨gu, 1, none⟩ (.int .i64 0))) := ⟨below_step (below_step (below_step HB1.out hb2) hb3) ((hb4.setCell (p := ⟨gu, 0, none⟩) (Nat.le_of_eq GU.out.symm) _).setCell (p := ⟨gu, 1, none⟩) (Nat.le_of_eq GU.out.symm) _)⟩
  have HU : Aside0 (((w4.setCell ⟨gu, 0, none⟩ (.int .i64 0)).setCell ⟨gu, 1, none⟩ (.int .i64 0)).heap[gu]? = some (.cells #[.int .i64 0, .int .i64 0] 38 (0, 0))) := ⟨blk_put (cs := #[.int .i64 0, .int .i64 0]) (blk_put (cs := #[.int .i64 0, .int .i64 0]) hu4 0 _ rfl) 1 _ rfl⟩
  have HR : Aside0 (((w4.setCell ⟨gu, 0, none⟩ (.int .i64 0)).setCell ⟨gu, 1, none⟩ (.int .i64 0)).heap[gr]? = some (.cells #[.int .i64 0, .int .i64 0] 23 (0, 0))) := ⟨box_stays hbox3 ((hb4.setCell (p := ⟨gu, 0, none⟩) (Nat.le_of_eq GU.out.symm) _).setCell (p := ⟨gu, 1, none⟩) (Nat.le_of_eq GU.out.symm) _)⟩
  generalize ((w4.setCell ⟨gu, 0, none⟩ (.int .i64 0)).setCell ⟨gu, 1, none⟩ (.int .i64 0)) = w5 at HBW HU HR ⊢
  clear ua0 ua1 ua2 ua3 hu4 ra0 ra1 ra2 ra3 hbox1 hbox2 hbox3
  go_wp2_with (first
    | (go_at_call 21; refine (unit_number.calls _ _ _ _ _ _ (GI.below HG.out HBW.out) hnum).mono ?_; rintro e w6 ⟨rfl, hb6⟩; have HR6 := box_stays HR.out hb6; have HU6 := box_stays HU.out hb6; have rb0 : w6.cell? ⟨gr, 0, none⟩ = some (.int .i64 0) := (blk_cell HR6 0).trans rfl; have rb1 : w6.cell? ⟨gr, 1, none⟩ = some (.int .i64 0) := (blk_cell HR6 1).trans rfl; have rb2 := blk_frozen HR6 0; have rb3 := blk_frozen HR6 1; have ub0 : w6.cell? ⟨gu, 0, none⟩ = some (.int .i64 0) := (blk_cell HU6 0).trans rfl; have ub1 : w6.cell? ⟨gu, 1, none⟩ = some (.int .i64 0) := (blk_cell HU6 1).trans rfl; have ub2 := blk_frozen HU6 0; have ub3 := blk_frozen HU6 1)
    | go_in)
  (try simp only [Exit.inBlock, Exit.then])
  refine bodyPost_ret (results_ct rfl _ _ gr 23 #[.int .i64 0, .int .i64 0] (0, 0) _ rfl (blk_put (cs := #[.int .i64 0, .int .i64 0]) (blk_put (cs := #[.int .i64 0, .int .i64 0]) HR6 0 _ rfl) 1 _ rfl) Tryz.underlying23 rfl (by kernel_rfl)) rfl ?_
  exact ⟨rfl, ((below_step HBW.out hb6).setCell (p := ⟨gr, 0, none⟩) (Nat.le_of_eq GR.out.symm) _).setCell (p := ⟨gr, 1, none⟩) (Nat.le_of_eq GR.out.symm) _⟩
set_option maxHeartbeats 8000000 in
set_option maxRecDepth 100000 in
theorem unit_Parse.c3 (k : Nat) (a0 : ByteArray) (w : World) (hG : GI w) (hle : ¬ (a0.size : Int) > 64) (hd nm : ByteArray) (fd : Bool) (hct : strings_Cut.f a0 ⟨#[32]⟩ = some (hd, nm, fd)) (hn : nm.size ≤ 1000) (al : ByteArray) (pn : Int) (mi ok : Bool) (hnum : unit_number.f hd = some (al, pn, mi, ok)) (kd : Int) (zn : Nat) (hu : unitAt nm.data.toList = some (kd, (zn : Int))) (hok : ok = false) :
    Calls Tryz.prog 7 #[.string a0] w fun e w' => e = .returned (.tuple #[.agg #[.int .i64 0, .int .i64 0], .int .i64 3]) ∧ Below w.heap.size w w' := by
  have HG := Aside0.mk hG
  clear hG
  have hu23 := Tryz.underlying23
  have hu48 := Tryz.underlying38
  subst hok
  have c1 : decide ((a0.size : Int) > 64) = false := decide_eq_false hle
  go_enter Tryz.func7, Tryz.ntmps7
  go_upto_region 5 with (first
    | ((with_reducible refine gate_dst (N := 2) rfl ?_); refine box_event ?hg (N := 2) ?hd (cs := #[.int .i64 0, .int .i64 0]) (t := 23) ?hr ?_; (case hd => rfl); (case hg => rfl); (case hr => first | (go_simp; done) | (go_simp; rfl)); intro gr hgr w1 hbox1 hb1; have GR := Aside0.mk hgr; clear hgr; have ra0 : w1.cell? ⟨gr, 0, none⟩ = some (.int .i64 0) := (blk_cell hbox1 0).trans rfl; have ra1 : w1.cell? ⟨gr, 1, none⟩ = some (.int .i64 0) := (blk_cell hbox1 1).trans rfl; have ra2 := blk_frozen hbox1 0; have ra3 := blk_frozen hbox1 1; have HB1 := Aside0.mk hb1; have HG1 := Aside0.mk (GI.below HG.out hb1))
    | (go_at_call 20; refine (strings_Cut.calls _ _ _ _ _ _ HG1.out hct).mono ?_; rintro e w2 ⟨rfl, hb2⟩; have hbox2 := box_stays hbox1 hb2)
    | (go_at_call 13; refine (unit_units.calls _).mono ?_; rintro e w3 ⟨b, rfl, hm3, hb3, hle3⟩; have hlk := look_yes hm3 hn hu; have hbox3 := box_stays hbox2 hb3)
    | ((with_reducible refine gate_dst (N := 7) rfl ?_); refine box_event ?hg (N := 7) ?hd (cs := #[.int .i64 0, .int .i64 0]) (t := 38) ?hr ?_; (case hd => rfl); (case hg => rfl); (case hr => first | (go_simp; done) | (go_simp; rfl)); intro gu hgu w4 hu4 hb4; have GU := Aside0.mk hgu; clear hgu; have ua0 : w4.cell? ⟨gu, 0, none⟩ = some (.int .i64 0) := (blk_cell hu4 0).trans rfl; have ua1 : w4.cell? ⟨gu, 1, none⟩ = some (.int .i64 0) := (blk_cell hu4 1).trans rfl; have ua2 := blk_frozen hu4 0; have ua3 := blk_frozen hu4 1))
  have HBW : Aside0 (Below w.heap.size w ((w4.setCell ⟨gu, 0, none⟩ (.int .i64 kd)).setCell ⟨gu, 1, none⟩ (.int .i64 zn))) := ⟨below_step (below_step (below_step HB1.out hb2) hb3) ((hb4.setCell (p := ⟨gu, 0, none⟩) (Nat.le_of_eq GU.out.symm) _).setCell (p := ⟨gu, 1, none⟩) (Nat.le_of_eq GU.out.symm) _)⟩
  have HU : Aside0 (((w4.setCell ⟨gu, 0, none⟩ (.int .i64 kd)).setCell ⟨gu, 1, none⟩ (.int .i64 zn)).heap[gu]? = some (.cells #[.int .i64 kd, .int .i64 zn] 38 (0, 0))) := ⟨blk_put (cs := #[.int .i64 kd, .int .i64 0]) (blk_put (cs := #[.int .i64 0, .int .i64 0]) hu4 0 _ rfl) 1 _ rfl⟩
  have HR : Aside0 (((w4.setCell ⟨gu, 0, none⟩ (.int .i64 kd)).setCell ⟨gu, 1, none⟩ (.int .i64 zn)).heap[gr]? = some (.cells #[.int .i64 0, .int .i64 0] 23 (0, 0))) := ⟨box_stays hbox3 ((hb4.setCell (p := ⟨gu, 0, none⟩) (Nat.le_of_eq GU.out.symm) _).setCell (p := ⟨gu, 1, none⟩) (Nat.le_of_eq GU.out.symm) _)⟩
  generalize ((w4.setCell ⟨gu, 0, none⟩ (.int .i64 kd)).setCell ⟨gu, 1, none⟩ (.int .i64 zn)) = w5 at HBW HU HR ⊢
  clear ua0 ua1 ua2 ua3 hu4 ra0 ra1 ra2 ra3 hbox1 hbox2 hbox3
  go_wp2_with (first
    | (go_at_call 21; refine (unit_number.calls _ _ _ _ _ _ (GI.below HG.out HBW.out) hnum).mono ?_; rintro e w6 ⟨rfl, hb6⟩; have HR6 := box_stays HR.out hb6; have HU6 := box_stays HU.out hb6; have rb0 : w6.cell? ⟨gr, 0, none⟩ = some (.int .i64 0) := (blk_cell HR6 0).trans rfl; have rb1 : w6.cell? ⟨gr, 1, none⟩ = some (.int .i64 0) := (blk_cell HR6 1).trans rfl; have rb2 := blk_frozen HR6 0; have rb3 := blk_frozen HR6 1; have ub0 : w6.cell? ⟨gu, 0, none⟩ = some (.int .i64 kd) := (blk_cell HU6 0).trans rfl; have ub1 : w6.cell? ⟨gu, 1, none⟩ = some (.int .i64 zn) := (blk_cell HU6 1).trans rfl; have ub2 := blk_frozen HU6 0; have ub3 := blk_frozen HU6 1)
    | go_in)
  (try simp only [Exit.inBlock, Exit.then])
  refine bodyPost_ret (results_ct rfl _ _ gr 23 #[.int .i64 0, .int .i64 0] (0, 0) _ rfl (blk_put (cs := #[.int .i64 0, .int .i64 0]) (blk_put (cs := #[.int .i64 0, .int .i64 0]) HR6 0 _ rfl) 1 _ rfl) Tryz.underlying23 rfl (by kernel_rfl)) rfl ?_
  exact ⟨rfl, ((below_step HBW.out hb6).setCell (p := ⟨gr, 0, none⟩) (Nat.le_of_eq GR.out.symm) _).setCell (p := ⟨gr, 1, none⟩) (Nat.le_of_eq GR.out.symm) _⟩
set_option maxHeartbeats 8000000 in
set_option maxRecDepth 100000 in
theorem unit_Parse.c4 (k : Nat) (a0 : ByteArray) (w : World) (hG : GI w) (hle : ¬ (a0.size : Int) > 64) (hd nm : ByteArray) (fd : Bool) (hct : strings_Cut.f a0 ⟨#[32]⟩ = some (hd, nm, fd)) (hn : nm.size ≤ 1000) (al : ByteArray) (pn : Int) (mi ok : Bool) (hnum : unit_number.f hd = some (al, pn, mi, ok)) (kd : Int) (zn : Nat) (hu : unitAt nm.data.toList = some (kd, (zn : Int))) (hok : ok = true) (hpz : pn > (zn : Int)) :
    Calls Tryz.prog 7 #[.string a0] w fun e w' => e = .returned (.tuple #[.agg #[.int .i64 0, .int .i64 0], .int .i64 2]) ∧ Below w.heap.size w w' := by
  have HG := Aside0.mk hG
  clear hG
  have hu23 := Tryz.underlying23
  have hu48 := Tryz.underlying38
  subst hok
  have c2 : decide (pn > (zn : Int)) = true := decide_eq_true hpz
  have c1 : decide ((a0.size : Int) > 64) = false := decide_eq_false hle
  go_enter Tryz.func7, Tryz.ntmps7
  go_upto_region 5 with (first
    | ((with_reducible refine gate_dst (N := 2) rfl ?_); refine box_event ?hg (N := 2) ?hd (cs := #[.int .i64 0, .int .i64 0]) (t := 23) ?hr ?_; (case hd => rfl); (case hg => rfl); (case hr => first | (go_simp; done) | (go_simp; rfl)); intro gr hgr w1 hbox1 hb1; have GR := Aside0.mk hgr; clear hgr; have ra0 : w1.cell? ⟨gr, 0, none⟩ = some (.int .i64 0) := (blk_cell hbox1 0).trans rfl; have ra1 : w1.cell? ⟨gr, 1, none⟩ = some (.int .i64 0) := (blk_cell hbox1 1).trans rfl; have ra2 := blk_frozen hbox1 0; have ra3 := blk_frozen hbox1 1; have HB1 := Aside0.mk hb1; have HG1 := Aside0.mk (GI.below HG.out hb1))
    | (go_at_call 20; refine (strings_Cut.calls _ _ _ _ _ _ HG1.out hct).mono ?_; rintro e w2 ⟨rfl, hb2⟩; have hbox2 := box_stays hbox1 hb2)
    | (go_at_call 13; refine (unit_units.calls _).mono ?_; rintro e w3 ⟨b, rfl, hm3, hb3, hle3⟩; have hlk := look_yes hm3 hn hu; have hbox3 := box_stays hbox2 hb3)
    | ((with_reducible refine gate_dst (N := 7) rfl ?_); refine box_event ?hg (N := 7) ?hd (cs := #[.int .i64 0, .int .i64 0]) (t := 38) ?hr ?_; (case hd => rfl); (case hg => rfl); (case hr => first | (go_simp; done) | (go_simp; rfl)); intro gu hgu w4 hu4 hb4; have GU := Aside0.mk hgu; clear hgu; have ua0 : w4.cell? ⟨gu, 0, none⟩ = some (.int .i64 0) := (blk_cell hu4 0).trans rfl; have ua1 : w4.cell? ⟨gu, 1, none⟩ = some (.int .i64 0) := (blk_cell hu4 1).trans rfl; have ua2 := blk_frozen hu4 0; have ua3 := blk_frozen hu4 1))
  have HBW : Aside0 (Below w.heap.size w ((w4.setCell ⟨gu, 0, none⟩ (.int .i64 kd)).setCell ⟨gu, 1, none⟩ (.int .i64 zn))) := ⟨below_step (below_step (below_step HB1.out hb2) hb3) ((hb4.setCell (p := ⟨gu, 0, none⟩) (Nat.le_of_eq GU.out.symm) _).setCell (p := ⟨gu, 1, none⟩) (Nat.le_of_eq GU.out.symm) _)⟩
  have HU : Aside0 (((w4.setCell ⟨gu, 0, none⟩ (.int .i64 kd)).setCell ⟨gu, 1, none⟩ (.int .i64 zn)).heap[gu]? = some (.cells #[.int .i64 kd, .int .i64 zn] 38 (0, 0))) := ⟨blk_put (cs := #[.int .i64 kd, .int .i64 0]) (blk_put (cs := #[.int .i64 0, .int .i64 0]) hu4 0 _ rfl) 1 _ rfl⟩
  have HR : Aside0 (((w4.setCell ⟨gu, 0, none⟩ (.int .i64 kd)).setCell ⟨gu, 1, none⟩ (.int .i64 zn)).heap[gr]? = some (.cells #[.int .i64 0, .int .i64 0] 23 (0, 0))) := ⟨box_stays hbox3 ((hb4.setCell (p := ⟨gu, 0, none⟩) (Nat.le_of_eq GU.out.symm) _).setCell (p := ⟨gu, 1, none⟩) (Nat.le_of_eq GU.out.symm) _)⟩
  generalize ((w4.setCell ⟨gu, 0, none⟩ (.int .i64 kd)).setCell ⟨gu, 1, none⟩ (.int .i64 zn)) = w5 at HBW HU HR ⊢
  clear ua0 ua1 ua2 ua3 hu4 ra0 ra1 ra2 ra3 hbox1 hbox2 hbox3
  go_wp2_with (first
    | (go_at_call 21; refine (unit_number.calls _ _ _ _ _ _ (GI.below HG.out HBW.out) hnum).mono ?_; rintro e w6 ⟨rfl, hb6⟩; have HR6 := box_stays HR.out hb6; have HU6 := box_stays HU.out hb6; have rb0 : w6.cell? ⟨gr, 0, none⟩ = some (.int .i64 0) := (blk_cell HR6 0).trans rfl; have rb1 : w6.cell? ⟨gr, 1, none⟩ = some (.int .i64 0) := (blk_cell HR6 1).trans rfl; have rb2 := blk_frozen HR6 0; have rb3 := blk_frozen HR6 1; have ub0 : w6.cell? ⟨gu, 0, none⟩ = some (.int .i64 kd) := (blk_cell HU6 0).trans rfl; have ub1 : w6.cell? ⟨gu, 1, none⟩ = some (.int .i64 zn) := (blk_cell HU6 1).trans rfl; have ub2 := blk_frozen HU6 0; have ub3 := blk_frozen HU6 1)
    | go_in)
  (try simp only [Exit.inBlock, Exit.then])
  refine bodyPost_ret (results_ct rfl _ _ gr 23 #[.int .i64 0, .int .i64 0] (0, 0) _ rfl (blk_put (cs := #[.int .i64 0, .int .i64 0]) (blk_put (cs := #[.int .i64 0, .int .i64 0]) HR6 0 _ rfl) 1 _ rfl) Tryz.underlying23 rfl (by kernel_rfl)) rfl ?_
  exact ⟨rfl, ((below_step HBW.out hb6).setCell (p := ⟨gr, 0, none⟩) (Nat.le_of_eq GR.out.symm) _).setCell (p := ⟨gr, 1, none⟩) (Nat.le_of_eq GR.out.symm) _⟩
set_option maxHeartbeats 8000000 in
set_option maxRecDepth 100000 in
theorem unit_Parse.c5 (k : Nat) (a0 : ByteArray) (w : World) (hG : GI w) (hle : ¬ (a0.size : Int) > 64) (hd nm : ByteArray) (fd : Bool) (hct : strings_Cut.f a0 ⟨#[32]⟩ = some (hd, nm, fd)) (hn : nm.size ≤ 1000) (al : ByteArray) (pn : Int) (mi ok : Bool) (hnum : unit_number.f hd = some (al, pn, mi, ok)) (kd : Int) (zn : Nat) (hu : unitAt nm.data.toList = some (kd, (zn : Int))) (hok : ok = true) (hpz : ¬ pn > (zn : Int)) (RZ SS TL : ByteArray) (cnt : Nat) (hcl : cnt ≤ 100) (hcnt : wrap64 ((zn : Int) - pn) = (cnt : Int)) (hRZ : RZ.data.toList = List.replicate cnt 48) (hsz : al.size + RZ.size ≤ 2000) (hSS : al ++ RZ = SS) (hTL : strings_TrimLeft.f SS ⟨#[48]⟩ = some TL) (hlen : (TL.size : Int) > 18) :
    Calls Tryz.prog 7 #[.string a0] w fun e w' => e = .returned (.tuple #[.agg #[.int .i64 0, .int .i64 0], .int .i64 2]) ∧ Below w.heap.size w w' := by
  have HG := Aside0.mk hG
  clear hG
  have hu23 := Tryz.underlying23
  have hu48 := Tryz.underlying38
  subst hok
  have c2 : decide (pn > (zn : Int)) = false := decide_eq_false hpz
  have c3 : decide ((TL.size : Int) > 18) = true := decide_eq_true hlen
  have ha1 : ∀ w, (Op.stringOp .add al RZ).run Tryz.prog w = .ok (.string SS) w := fun w => hSS ▸ run_string_add_sum _ _ _ (by omega)
  have HTL := Aside0.mk hTL
  have HRZ := Aside0.mk hRZ
  clear hSS hTL hRZ hsz
  have c1 : decide ((a0.size : Int) > 64) = false := decide_eq_false hle
  go_enter Tryz.func7, Tryz.ntmps7
  go_upto_region 5 with (first
    | ((with_reducible refine gate_dst (N := 2) rfl ?_); refine box_event ?hg (N := 2) ?hd (cs := #[.int .i64 0, .int .i64 0]) (t := 23) ?hr ?_; (case hd => rfl); (case hg => rfl); (case hr => first | (go_simp; done) | (go_simp; rfl)); intro gr hgr w1 hbox1 hb1; have GR := Aside0.mk hgr; clear hgr; have ra0 : w1.cell? ⟨gr, 0, none⟩ = some (.int .i64 0) := (blk_cell hbox1 0).trans rfl; have ra1 : w1.cell? ⟨gr, 1, none⟩ = some (.int .i64 0) := (blk_cell hbox1 1).trans rfl; have ra2 := blk_frozen hbox1 0; have ra3 := blk_frozen hbox1 1; have HB1 := Aside0.mk hb1; have HG1 := Aside0.mk (GI.below HG.out hb1))
    | (go_at_call 20; refine (strings_Cut.calls _ _ _ _ _ _ HG1.out hct).mono ?_; rintro e w2 ⟨rfl, hb2⟩; have hbox2 := box_stays hbox1 hb2)
    | (go_at_call 13; refine (unit_units.calls _).mono ?_; rintro e w3 ⟨b, rfl, hm3, hb3, hle3⟩; have hlk := look_yes hm3 hn hu; have hbox3 := box_stays hbox2 hb3)
    | ((with_reducible refine gate_dst (N := 7) rfl ?_); refine box_event ?hg (N := 7) ?hd (cs := #[.int .i64 0, .int .i64 0]) (t := 38) ?hr ?_; (case hd => rfl); (case hg => rfl); (case hr => first | (go_simp; done) | (go_simp; rfl)); intro gu hgu w4 hu4 hb4; have GU := Aside0.mk hgu; clear hgu; have ua0 : w4.cell? ⟨gu, 0, none⟩ = some (.int .i64 0) := (blk_cell hu4 0).trans rfl; have ua1 : w4.cell? ⟨gu, 1, none⟩ = some (.int .i64 0) := (blk_cell hu4 1).trans rfl; have ua2 := blk_frozen hu4 0; have ua3 := blk_frozen hu4 1))
  have HBW : Aside0 (Below w.heap.size w ((w4.setCell ⟨gu, 0, none⟩ (.int .i64 kd)).setCell ⟨gu, 1, none⟩ (.int .i64 zn))) := ⟨below_step (below_step (below_step HB1.out hb2) hb3) ((hb4.setCell (p := ⟨gu, 0, none⟩) (Nat.le_of_eq GU.out.symm) _).setCell (p := ⟨gu, 1, none⟩) (Nat.le_of_eq GU.out.symm) _)⟩
  have HU : Aside0 (((w4.setCell ⟨gu, 0, none⟩ (.int .i64 kd)).setCell ⟨gu, 1, none⟩ (.int .i64 zn)).heap[gu]? = some (.cells #[.int .i64 kd, .int .i64 zn] 38 (0, 0))) := ⟨blk_put (cs := #[.int .i64 kd, .int .i64 0]) (blk_put (cs := #[.int .i64 0, .int .i64 0]) hu4 0 _ rfl) 1 _ rfl⟩
  have HR : Aside0 (((w4.setCell ⟨gu, 0, none⟩ (.int .i64 kd)).setCell ⟨gu, 1, none⟩ (.int .i64 zn)).heap[gr]? = some (.cells #[.int .i64 0, .int .i64 0] 23 (0, 0))) := ⟨box_stays hbox3 ((hb4.setCell (p := ⟨gu, 0, none⟩) (Nat.le_of_eq GU.out.symm) _).setCell (p := ⟨gu, 1, none⟩) (Nat.le_of_eq GU.out.symm) _)⟩
  generalize ((w4.setCell ⟨gu, 0, none⟩ (.int .i64 kd)).setCell ⟨gu, 1, none⟩ (.int .i64 zn)) = w5 at HBW HU HR ⊢
  clear ua0 ua1 ua2 ua3 hu4 ra0 ra1 ra2 ra3 hbox1 hbox2 hbox3
  go_wp2_with (first
    | (go_at_call 21; refine (unit_number.calls _ _ _ _ _ _ (GI.below HG.out HBW.out) hnum).mono ?_; rintro e w6 ⟨rfl, hb6⟩; have HR6 := box_stays HR.out hb6; have HU6 := box_stays HU.out hb6; have rb0 : w6.cell? ⟨gr, 0, none⟩ = some (.int .i64 0) := (blk_cell HR6 0).trans rfl; have rb1 : w6.cell? ⟨gr, 1, none⟩ = some (.int .i64 0) := (blk_cell HR6 1).trans rfl; have rb2 := blk_frozen HR6 0; have rb3 := blk_frozen HR6 1; have ub0 : w6.cell? ⟨gu, 0, none⟩ = some (.int .i64 kd) := (blk_cell HU6 0).trans rfl; have ub1 : w6.cell? ⟨gu, 1, none⟩ = some (.int .i64 zn) := (blk_cell HU6 1).trans rfl; have ub2 := blk_frozen HU6 0; have ub3 := blk_frozen HU6 1)
    | (go_at_call 15; (try rw [hcnt]); refine (rep_zero cnt hcl _).mono ?_; rw [show (⟨(List.replicate cnt (48 : UInt8)).toArray⟩ : ByteArray) = RZ from (bytes_ext HRZ.out).symm]; rintro e w7 ⟨rfl, hb7⟩)
    | (go_at_call 22; refine (strings_TrimLeft.calls _ _ _ _ HTL.out).mono ?_; rintro e w8 ⟨rfl, hb8⟩; have HR8 := box_stays (box_stays HR6 hb7) hb8; have HU8 := box_stays (box_stays HU6 hb7) hb8; have HB8 := Aside0.mk (below_step (below_step (below_step HBW.out hb6) hb7) hb8); have rc0 : w8.cell? ⟨gr, 0, none⟩ = some (.int .i64 0) := (blk_cell HR8 0).trans rfl; have rc1 : w8.cell? ⟨gr, 1, none⟩ = some (.int .i64 0) := (blk_cell HR8 1).trans rfl; have rc2 := blk_frozen HR8 0; have rc3 := blk_frozen HR8 1; have uc0 : w8.cell? ⟨gu, 0, none⟩ = some (.int .i64 kd) := (blk_cell HU8 0).trans rfl; have uc1 : w8.cell? ⟨gu, 1, none⟩ = some (.int .i64 zn) := (blk_cell HU8 1).trans rfl; have uc2 := blk_frozen HU8 0; have uc3 := blk_frozen HU8 1)
    | go_in)
  (try simp only [Exit.inBlock, Exit.then])
  refine bodyPost_ret (results_ct rfl _ _ gr 23 #[.int .i64 0, .int .i64 0] (0, 0) _ rfl (blk_put (cs := #[.int .i64 0, .int .i64 0]) (blk_put (cs := #[.int .i64 0, .int .i64 0]) HR8 0 _ rfl) 1 _ rfl) Tryz.underlying23 rfl (by kernel_rfl)) rfl ?_
  exact ⟨rfl, ((HB8.out).setCell (p := ⟨gr, 0, none⟩) (Nat.le_of_eq GR.out.symm) _).setCell (p := ⟨gr, 1, none⟩) (Nat.le_of_eq GR.out.symm) _⟩
set_option maxHeartbeats 8000000 in
set_option maxRecDepth 100000 in
theorem unit_Parse.d00 (k : Nat) (a0 : ByteArray) (w : World) (hG : GI w) (hle : ¬ (a0.size : Int) > 64) (hd nm : ByteArray) (fd : Bool) (hct : strings_Cut.f a0 ⟨#[32]⟩ = some (hd, nm, fd)) (hn : nm.size ≤ 1000) (al : ByteArray) (pn : Int) (mi ok : Bool) (hnum : unit_number.f hd = some (al, pn, mi, ok)) (kd : Int) (zn : Nat) (hu : unitAt nm.data.toList = some (kd, (zn : Int))) (hok : ok = true) (hmi : mi = false) (hpz : ¬ pn > (zn : Int)) (RZ SS TL : ByteArray) (cnt : Nat) (hcl : cnt ≤ 100) (hcnt : wrap64 ((zn : Int) - pn) = (cnt : Int)) (hRZ : RZ.data.toList = List.replicate cnt 48) (hsz : al.size + RZ.size ≤ 2000) (hSS : al ++ RZ = SS) (hTL : strings_TrimLeft.f SS ⟨#[48]⟩ = some TL) (hlen : ¬ (TL.size : Int) > 18) (AT : ByteArray) (n : Int) (hAA : ⟨#[48]⟩ ++ TL = AT) (hn0 : 0 ≤ n) (hn1 : n ≤ 1000000000000000000) (hAT : strconv_Atoi.f AT = some (n, none)) (e0 : Int) (hc : unit_Check.f k kd n = some e0) (he : ¬ e0 = 0) :
    Calls Tryz.prog 7 #[.string a0] w fun e w' => e = .returned (.tuple #[.agg #[.int .i64 0, .int .i64 0], .int .i64 e0]) ∧ Below w.heap.size w w' := by
  have HG := Aside0.mk hG
  clear hG
  have hu23 := Tryz.underlying23
  have hu48 := Tryz.underlying38
  subst hok hmi
  have c9 : (e0 != 0) = true := bne_iff_ne.mpr he
  have c2 : decide (pn > (zn : Int)) = false := decide_eq_false hpz
  have c3 : decide ((TL.size : Int) > 18) = false := decide_eq_false hlen
  have ha2 : ∀ w, (Op.stringOp .add ⟨#[48]⟩ TL).run Tryz.prog w = .ok (.string AT) w := fun w => hAA ▸ run_string_add_sum _ _ _ (by show 1 + TL.size ≤ _; omega)
  clear hAA
  have ha1 : ∀ w, (Op.stringOp .add al RZ).run Tryz.prog w = .ok (.string SS) w := fun w => hSS ▸ run_string_add_sum _ _ _ (by omega)
  have HTL := Aside0.mk hTL
  have HRZ := Aside0.mk hRZ
  clear hSS hTL hRZ hsz
  have c1 : decide ((a0.size : Int) > 64) = false := decide_eq_false hle
  go_enter Tryz.func7, Tryz.ntmps7
  go_upto_region 5 with (first
    | ((with_reducible refine gate_dst (N := 2) rfl ?_); refine box_event ?hg (N := 2) ?hd (cs := #[.int .i64 0, .int .i64 0]) (t := 23) ?hr ?_; (case hd => rfl); (case hg => rfl); (case hr => first | (go_simp; done) | (go_simp; rfl)); intro gr hgr w1 hbox1 hb1; have GR := Aside0.mk hgr; clear hgr; have ra0 : w1.cell? ⟨gr, 0, none⟩ = some (.int .i64 0) := (blk_cell hbox1 0).trans rfl; have ra1 : w1.cell? ⟨gr, 1, none⟩ = some (.int .i64 0) := (blk_cell hbox1 1).trans rfl; have ra2 := blk_frozen hbox1 0; have ra3 := blk_frozen hbox1 1; have HB1 := Aside0.mk hb1; have HG1 := Aside0.mk (GI.below HG.out hb1))
    | (go_at_call 20; refine (strings_Cut.calls _ _ _ _ _ _ HG1.out hct).mono ?_; rintro e w2 ⟨rfl, hb2⟩; have hbox2 := box_stays hbox1 hb2)
    | (go_at_call 13; refine (unit_units.calls _).mono ?_; rintro e w3 ⟨b, rfl, hm3, hb3, hle3⟩; have hlk := look_yes hm3 hn hu; have hbox3 := box_stays hbox2 hb3)
    | ((with_reducible refine gate_dst (N := 7) rfl ?_); refine box_event ?hg (N := 7) ?hd (cs := #[.int .i64 0, .int .i64 0]) (t := 38) ?hr ?_; (case hd => rfl); (case hg => rfl); (case hr => first | (go_simp; done) | (go_simp; rfl)); intro gu hgu w4 hu4 hb4; have GU := Aside0.mk hgu; clear hgu; have ua0 : w4.cell? ⟨gu, 0, none⟩ = some (.int .i64 0) := (blk_cell hu4 0).trans rfl; have ua1 : w4.cell? ⟨gu, 1, none⟩ = some (.int .i64 0) := (blk_cell hu4 1).trans rfl; have ua2 := blk_frozen hu4 0; have ua3 := blk_frozen hu4 1))
  have HBW : Aside0 (Below w.heap.size w ((w4.setCell ⟨gu, 0, none⟩ (.int .i64 kd)).setCell ⟨gu, 1, none⟩ (.int .i64 zn))) := ⟨below_step (below_step (below_step HB1.out hb2) hb3) ((hb4.setCell (p := ⟨gu, 0, none⟩) (Nat.le_of_eq GU.out.symm) _).setCell (p := ⟨gu, 1, none⟩) (Nat.le_of_eq GU.out.symm) _)⟩
  have HU : Aside0 (((w4.setCell ⟨gu, 0, none⟩ (.int .i64 kd)).setCell ⟨gu, 1, none⟩ (.int .i64 zn)).heap[gu]? = some (.cells #[.int .i64 kd, .int .i64 zn] 38 (0, 0))) := ⟨blk_put (cs := #[.int .i64 kd, .int .i64 0]) (blk_put (cs := #[.int .i64 0, .int .i64 0]) hu4 0 _ rfl) 1 _ rfl⟩
  have HR : Aside0 (((w4.setCell ⟨gu, 0, none⟩ (.int .i64 kd)).setCell ⟨gu, 1, none⟩ (.int .i64 zn)).heap[gr]? = some (.cells #[.int .i64 0, .int .i64 0] 23 (0, 0))) := ⟨box_stays hbox3 ((hb4.setCell (p := ⟨gu, 0, none⟩) (Nat.le_of_eq GU.out.symm) _).setCell (p := ⟨gu, 1, none⟩) (Nat.le_of_eq GU.out.symm) _)⟩
  generalize ((w4.setCell ⟨gu, 0, none⟩ (.int .i64 kd)).setCell ⟨gu, 1, none⟩ (.int .i64 zn)) = w5 at HBW HU HR ⊢
  clear ua0 ua1 ua2 ua3 hu4 ra0 ra1 ra2 ra3 hbox1 hbox2 hbox3
  go_upto_region 16 with (first
    | (go_at_call 21; refine (unit_number.calls _ _ _ _ _ _ (GI.below HG.out HBW.out) hnum).mono ?_; rintro e w6 ⟨rfl, hb6⟩; have HR6 := box_stays HR.out hb6; have HU6 := box_stays HU.out hb6; have rb0 : w6.cell? ⟨gr, 0, none⟩ = some (.int .i64 0) := (blk_cell HR6 0).trans rfl; have rb1 : w6.cell? ⟨gr, 1, none⟩ = some (.int .i64 0) := (blk_cell HR6 1).trans rfl; have rb2 := blk_frozen HR6 0; have rb3 := blk_frozen HR6 1; have ub0 : w6.cell? ⟨gu, 0, none⟩ = some (.int .i64 kd) := (blk_cell HU6 0).trans rfl; have ub1 : w6.cell? ⟨gu, 1, none⟩ = some (.int .i64 zn) := (blk_cell HU6 1).trans rfl; have ub2 := blk_frozen HU6 0; have ub3 := blk_frozen HU6 1)
    | (go_at_call 15; (try rw [hcnt]); refine (rep_zero cnt hcl _).mono ?_; rw [show (⟨(List.replicate cnt (48 : UInt8)).toArray⟩ : ByteArray) = RZ from (bytes_ext HRZ.out).symm]; rintro e w7 ⟨rfl, hb7⟩)
    | (go_at_call 22; refine (strings_TrimLeft.calls _ _ _ _ HTL.out).mono ?_; rintro e w8 ⟨rfl, hb8⟩; have HR8 := box_stays (box_stays HR6 hb7) hb8; have HU8 := box_stays (box_stays HU6 hb7) hb8; have HB8 := Aside0.mk (below_step (below_step (below_step HBW.out hb6) hb7) hb8); have rc0 : w8.cell? ⟨gr, 0, none⟩ = some (.int .i64 0) := (blk_cell HR8 0).trans rfl; have rc1 : w8.cell? ⟨gr, 1, none⟩ = some (.int .i64 0) := (blk_cell HR8 1).trans rfl; have rc2 := blk_frozen HR8 0; have rc3 := blk_frozen HR8 1; have uc0 : w8.cell? ⟨gu, 0, none⟩ = some (.int .i64 kd) := (blk_cell HU8 0).trans rfl; have uc1 : w8.cell? ⟨gu, 1, none⟩ = some (.int .i64 zn) := (blk_cell HU8 1).trans rfl; have uc2 := blk_frozen HU8 0; have uc3 := blk_frozen HU8 1)
    | (go_at_call 23; refine (strconv_Atoi.oks _ _ _ (GI.below HG.out HB8.out) hAT).mono ?_; rintro e w9 ⟨rfl, hb9⟩; have HR9 := box_stays HR8 hb9; have HU9 := box_stays HU8 hb9; have HB9 := Aside0.mk (below_step HB8.out hb9); have ud0 : w9.cell? ⟨gu, 0, none⟩ = some (.int .i64 kd) := (blk_cell HU9 0).trans rfl; have ud1 : w9.cell? ⟨gu, 1, none⟩ = some (.int .i64 zn) := (blk_cell HU9 1).trans rfl; have ud2 := blk_frozen HU9 0; have ud3 := blk_frozen HU9 1))
  clear rb0 rb1 rb2 rb3 rc0 rc1 rc2 rc3 ub0 ub1 ub2 ub3 uc0 uc1 uc2 uc3
  go_upto_region 17 with (first
    | ((with_reducible refine gate_dst (N := 15) rfl ?_); refine box_event ?hg (N := 15) ?hd (cs := #[.int .i64 0, .int .i64 0]) (t := 23) ?hr ?_; (case hd => rfl); (case hg => rfl); (case hr => first | (go_simp; done) | (go_simp; rfl)); intro gq hgq w10 hq10 hb10; have GQ := Aside0.mk hgq; clear hgq; have qa0 : w10.cell? ⟨gq, 0, none⟩ = some (.int .i64 0) := (blk_cell hq10 0).trans rfl; have qa1 : w10.cell? ⟨gq, 1, none⟩ = some (.int .i64 0) := (blk_cell hq10 1).trans rfl; have qa2 := blk_frozen hq10 0; have qa3 := blk_frozen hq10 1))
  have HBX : Aside0 (Below w.heap.size w ((w10.setCell ⟨gq, 0, none⟩ (.int .i64 kd)).setCell ⟨gq, 1, none⟩ (.int .i64 n))) := ⟨below_step HB9.out ((hb10.setCell (p := ⟨gq, 0, none⟩) (Nat.le_of_eq GQ.out.symm) _).setCell (p := ⟨gq, 1, none⟩) (Nat.le_of_eq GQ.out.symm) _)⟩
  have HQ : Aside0 (((w10.setCell ⟨gq, 0, none⟩ (.int .i64 kd)).setCell ⟨gq, 1, none⟩ (.int .i64 n)).heap[gq]? = some (.cells #[.int .i64 kd, .int .i64 n] 23 (0, 0))) := ⟨blk_put (cs := #[.int .i64 kd, .int .i64 0]) (blk_put (cs := #[.int .i64 0, .int .i64 0]) hq10 0 _ rfl) 1 _ rfl⟩
  have HRX : Aside0 (((w10.setCell ⟨gq, 0, none⟩ (.int .i64 kd)).setCell ⟨gq, 1, none⟩ (.int .i64 n)).heap[gr]? = some (.cells #[.int .i64 0, .int .i64 0] 23 (0, 0))) := ⟨box_stays HR9 ((hb10.setCell (p := ⟨gq, 0, none⟩) (Nat.le_of_eq GQ.out.symm) _).setCell (p := ⟨gq, 1, none⟩) (Nat.le_of_eq GQ.out.symm) _)⟩
  generalize ((w10.setCell ⟨gq, 0, none⟩ (.int .i64 kd)).setCell ⟨gq, 1, none⟩ (.int .i64 n)) = w11 at HBX HQ HRX ⊢
  clear qa0 qa1 qa2 qa3 hq10 ud0 ud1 ud2 ud3
  have qb0 : w11.cell? ⟨gq, 0, none⟩ = some (.int .i64 kd) := (blk_cell HQ.out 0).trans rfl; have qb1 : w11.cell? ⟨gq, 1, none⟩ = some (.int .i64 n) := (blk_cell HQ.out 1).trans rfl; have qb2 := blk_frozen HQ.out 0; have qb3 := blk_frozen HQ.out 1
  go_wp2_with (first
    | (go_at_call 12; refine (unit_Check.calls k kd n e0 _ hc).mono ?_; rintro e w12 ⟨rfl, hb12⟩; have HR12 := box_stays HRX.out hb12; have HQ12 := box_stays HQ.out hb12; have rd0 : w12.cell? ⟨gr, 0, none⟩ = some (.int .i64 0) := (blk_cell HR12 0).trans rfl; have rd1 : w12.cell? ⟨gr, 1, none⟩ = some (.int .i64 0) := (blk_cell HR12 1).trans rfl; have rd2 := blk_frozen HR12 0; have rd3 := blk_frozen HR12 1; have qc0 : w12.cell? ⟨gq, 0, none⟩ = some (.int .i64 kd) := (blk_cell HQ12 0).trans rfl; have qc1 : w12.cell? ⟨gq, 1, none⟩ = some (.int .i64 n) := (blk_cell HQ12 1).trans rfl; have qc2 := blk_frozen HQ12 0; have qc3 := blk_frozen HQ12 1)
    | go_in)
  (try simp only [Exit.inBlock, Exit.then])
  refine bodyPost_ret (results_ct rfl _ _ gr 23 #[.int .i64 0, .int .i64 0] (0, 0) _ rfl (blk_put (cs := #[.int .i64 0, .int .i64 0]) (blk_put (cs := #[.int .i64 0, .int .i64 0]) HR12 0 _ rfl) 1 _ rfl) Tryz.underlying23 rfl (by kernel_rfl)) rfl ?_
  exact ⟨rfl, ((below_step HBX.out hb12).setCell (p := ⟨gr, 0, none⟩) (Nat.le_of_eq GR.out.symm) _).setCell (p := ⟨gr, 1, none⟩) (Nat.le_of_eq GR.out.symm) _⟩
set_option maxHeartbeats 8000000 in
set_option maxRecDepth 100000 in
theorem unit_Parse.d01 (k : Nat) (a0 : ByteArray) (w : World) (hG : GI w) (hle : ¬ (a0.size : Int) > 64) (hd nm : ByteArray) (fd : Bool) (hct : strings_Cut.f a0 ⟨#[32]⟩ = some (hd, nm, fd)) (hn : nm.size ≤ 1000) (al : ByteArray) (pn : Int) (mi ok : Bool) (hnum : unit_number.f hd = some (al, pn, mi, ok)) (kd : Int) (zn : Nat) (hu : unitAt nm.data.toList = some (kd, (zn : Int))) (hok : ok = true) (hmi : mi = false) (hpz : ¬ pn > (zn : Int)) (RZ SS TL : ByteArray) (cnt : Nat) (hcl : cnt ≤ 100) (hcnt : wrap64 ((zn : Int) - pn) = (cnt : Int)) (hRZ : RZ.data.toList = List.replicate cnt 48) (hsz : al.size + RZ.size ≤ 2000) (hSS : al ++ RZ = SS) (hTL : strings_TrimLeft.f SS ⟨#[48]⟩ = some TL) (hlen : ¬ (TL.size : Int) > 18) (AT : ByteArray) (n : Int) (hAA : ⟨#[48]⟩ ++ TL = AT) (hn0 : 0 ≤ n) (hn1 : n ≤ 1000000000000000000) (hAT : strconv_Atoi.f AT = some (n, none)) (e0 : Int) (hc : unit_Check.f k kd n = some e0) (he : e0 = 0) :
    Calls Tryz.prog 7 #[.string a0] w fun e w' => e = .returned (.tuple #[.agg #[.int .i64 kd, .int .i64 n], .int .i64 0]) ∧ Below w.heap.size w w' := by
  have HG := Aside0.mk hG
  clear hG
  have hu23 := Tryz.underlying23
  have hu48 := Tryz.underlying38
  subst hok hmi
  subst he
  have c2 : decide (pn > (zn : Int)) = false := decide_eq_false hpz
  have c3 : decide ((TL.size : Int) > 18) = false := decide_eq_false hlen
  have ha2 : ∀ w, (Op.stringOp .add ⟨#[48]⟩ TL).run Tryz.prog w = .ok (.string AT) w := fun w => hAA ▸ run_string_add_sum _ _ _ (by show 1 + TL.size ≤ _; omega)
  clear hAA
  have ha1 : ∀ w, (Op.stringOp .add al RZ).run Tryz.prog w = .ok (.string SS) w := fun w => hSS ▸ run_string_add_sum _ _ _ (by omega)
  have HTL := Aside0.mk hTL
  have HRZ := Aside0.mk hRZ
  clear hSS hTL hRZ hsz
  have c1 : decide ((a0.size : Int) > 64) = false := decide_eq_false hle
  go_enter Tryz.func7, Tryz.ntmps7
  go_upto_region 5 with (first
    | ((with_reducible refine gate_dst (N := 2) rfl ?_); refine box_event ?hg (N := 2) ?hd (cs := #[.int .i64 0, .int .i64 0]) (t := 23) ?hr ?_; (case hd => rfl); (case hg => rfl); (case hr => first | (go_simp; done) | (go_simp; rfl)); intro gr hgr w1 hbox1 hb1; have GR := Aside0.mk hgr; clear hgr; have ra0 : w1.cell? ⟨gr, 0, none⟩ = some (.int .i64 0) := (blk_cell hbox1 0).trans rfl; have ra1 : w1.cell? ⟨gr, 1, none⟩ = some (.int .i64 0) := (blk_cell hbox1 1).trans rfl; have ra2 := blk_frozen hbox1 0; have ra3 := blk_frozen hbox1 1; have HB1 := Aside0.mk hb1; have HG1 := Aside0.mk (GI.below HG.out hb1))
    | (go_at_call 20; refine (strings_Cut.calls _ _ _ _ _ _ HG1.out hct).mono ?_; rintro e w2 ⟨rfl, hb2⟩; have hbox2 := box_stays hbox1 hb2)
    | (go_at_call 13; refine (unit_units.calls _).mono ?_; rintro e w3 ⟨b, rfl, hm3, hb3, hle3⟩; have hlk := look_yes hm3 hn hu; have hbox3 := box_stays hbox2 hb3)
    | ((with_reducible refine gate_dst (N := 7) rfl ?_); refine box_event ?hg (N := 7) ?hd (cs := #[.int .i64 0, .int .i64 0]) (t := 38) ?hr ?_; (case hd => rfl); (case hg => rfl); (case hr => first | (go_simp; done) | (go_simp; rfl)); intro gu hgu w4 hu4 hb4; have GU := Aside0.mk hgu; clear hgu; have ua0 : w4.cell? ⟨gu, 0, none⟩ = some (.int .i64 0) := (blk_cell hu4 0).trans rfl; have ua1 : w4.cell? ⟨gu, 1, none⟩ = some (.int .i64 0) := (blk_cell hu4 1).trans rfl; have ua2 := blk_frozen hu4 0; have ua3 := blk_frozen hu4 1))
  have HBW : Aside0 (Below w.heap.size w ((w4.setCell ⟨gu, 0, none⟩ (.int .i64 kd)).setCell ⟨gu, 1, none⟩ (.int .i64 zn))) := ⟨below_step (below_step (below_step HB1.out hb2) hb3) ((hb4.setCell (p := ⟨gu, 0, none⟩) (Nat.le_of_eq GU.out.symm) _).setCell (p := ⟨gu, 1, none⟩) (Nat.le_of_eq GU.out.symm) _)⟩
  have HU : Aside0 (((w4.setCell ⟨gu, 0, none⟩ (.int .i64 kd)).setCell ⟨gu, 1, none⟩ (.int .i64 zn)).heap[gu]? = some (.cells #[.int .i64 kd, .int .i64 zn] 38 (0, 0))) := ⟨blk_put (cs := #[.int .i64 kd, .int .i64 0]) (blk_put (cs := #[.int .i64 0, .int .i64 0]) hu4 0 _ rfl) 1 _ rfl⟩
  have HR : Aside0 (((w4.setCell ⟨gu, 0, none⟩ (.int .i64 kd)).setCell ⟨gu, 1, none⟩ (.int .i64 zn)).heap[gr]? = some (.cells #[.int .i64 0, .int .i64 0] 23 (0, 0))) := ⟨box_stays hbox3 ((hb4.setCell (p := ⟨gu, 0, none⟩) (Nat.le_of_eq GU.out.symm) _).setCell (p := ⟨gu, 1, none⟩) (Nat.le_of_eq GU.out.symm) _)⟩
  generalize ((w4.setCell ⟨gu, 0, none⟩ (.int .i64 kd)).setCell ⟨gu, 1, none⟩ (.int .i64 zn)) = w5 at HBW HU HR ⊢
  clear ua0 ua1 ua2 ua3 hu4 ra0 ra1 ra2 ra3 hbox1 hbox2 hbox3
  go_upto_region 16 with (first
    | (go_at_call 21; refine (unit_number.calls _ _ _ _ _ _ (GI.below HG.out HBW.out) hnum).mono ?_; rintro e w6 ⟨rfl, hb6⟩; have HR6 := box_stays HR.out hb6; have HU6 := box_stays HU.out hb6; have rb0 : w6.cell? ⟨gr, 0, none⟩ = some (.int .i64 0) := (blk_cell HR6 0).trans rfl; have rb1 : w6.cell? ⟨gr, 1, none⟩ = some (.int .i64 0) := (blk_cell HR6 1).trans rfl; have rb2 := blk_frozen HR6 0; have rb3 := blk_frozen HR6 1; have ub0 : w6.cell? ⟨gu, 0, none⟩ = some (.int .i64 kd) := (blk_cell HU6 0).trans rfl; have ub1 : w6.cell? ⟨gu, 1, none⟩ = some (.int .i64 zn) := (blk_cell HU6 1).trans rfl; have ub2 := blk_frozen HU6 0; have ub3 := blk_frozen HU6 1)
    | (go_at_call 15; (try rw [hcnt]); refine (rep_zero cnt hcl _).mono ?_; rw [show (⟨(List.replicate cnt (48 : UInt8)).toArray⟩ : ByteArray) = RZ from (bytes_ext HRZ.out).symm]; rintro e w7 ⟨rfl, hb7⟩)
    | (go_at_call 22; refine (strings_TrimLeft.calls _ _ _ _ HTL.out).mono ?_; rintro e w8 ⟨rfl, hb8⟩; have HR8 := box_stays (box_stays HR6 hb7) hb8; have HU8 := box_stays (box_stays HU6 hb7) hb8; have HB8 := Aside0.mk (below_step (below_step (below_step HBW.out hb6) hb7) hb8); have rc0 : w8.cell? ⟨gr, 0, none⟩ = some (.int .i64 0) := (blk_cell HR8 0).trans rfl; have rc1 : w8.cell? ⟨gr, 1, none⟩ = some (.int .i64 0) := (blk_cell HR8 1).trans rfl; have rc2 := blk_frozen HR8 0; have rc3 := blk_frozen HR8 1; have uc0 : w8.cell? ⟨gu, 0, none⟩ = some (.int .i64 kd) := (blk_cell HU8 0).trans rfl; have uc1 : w8.cell? ⟨gu, 1, none⟩ = some (.int .i64 zn) := (blk_cell HU8 1).trans rfl; have uc2 := blk_frozen HU8 0; have uc3 := blk_frozen HU8 1)
    | (go_at_call 23; refine (strconv_Atoi.oks _ _ _ (GI.below HG.out HB8.out) hAT).mono ?_; rintro e w9 ⟨rfl, hb9⟩; have HR9 := box_stays HR8 hb9; have HU9 := box_stays HU8 hb9; have HB9 := Aside0.mk (below_step HB8.out hb9); have ud0 : w9.cell? ⟨gu, 0, none⟩ = some (.int .i64 kd) := (blk_cell HU9 0).trans rfl; have ud1 : w9.cell? ⟨gu, 1, none⟩ = some (.int .i64 zn) := (blk_cell HU9 1).trans rfl; have ud2 := blk_frozen HU9 0; have ud3 := blk_frozen HU9 1))
  clear rb0 rb1 rb2 rb3 rc0 rc1 rc2 rc3 ub0 ub1 ub2 ub3 uc0 uc1 uc2 uc3
  go_upto_region 17 with (first
    | ((with_reducible refine gate_dst (N := 15) rfl ?_); refine box_event ?hg (N := 15) ?hd (cs := #[.int .i64 0, .int .i64 0]) (t := 23) ?hr ?_; (case hd => rfl); (case hg => rfl); (case hr => first | (go_simp; done) | (go_simp; rfl)); intro gq hgq w10 hq10 hb10; have GQ := Aside0.mk hgq; clear hgq; have qa0 : w10.cell? ⟨gq, 0, none⟩ = some (.int .i64 0) := (blk_cell hq10 0).trans rfl; have qa1 : w10.cell? ⟨gq, 1, none⟩ = some (.int .i64 0) := (blk_cell hq10 1).trans rfl; have qa2 := blk_frozen hq10 0; have qa3 := blk_frozen hq10 1))
  have HBX : Aside0 (Below w.heap.size w ((w10.setCell ⟨gq, 0, none⟩ (.int .i64 kd)).setCell ⟨gq, 1, none⟩ (.int .i64 n))) := ⟨below_step HB9.out ((hb10.setCell (p := ⟨gq, 0, none⟩) (Nat.le_of_eq GQ.out.symm) _).setCell (p := ⟨gq, 1, none⟩) (Nat.le_of_eq GQ.out.symm) _)⟩
  have HQ : Aside0 (((w10.setCell ⟨gq, 0, none⟩ (.int .i64 kd)).setCell ⟨gq, 1, none⟩ (.int .i64 n)).heap[gq]? = some (.cells #[.int .i64 kd, .int .i64 n] 23 (0, 0))) := ⟨blk_put (cs := #[.int .i64 kd, .int .i64 0]) (blk_put (cs := #[.int .i64 0, .int .i64 0]) hq10 0 _ rfl) 1 _ rfl⟩
  have HRX : Aside0 (((w10.setCell ⟨gq, 0, none⟩ (.int .i64 kd)).setCell ⟨gq, 1, none⟩ (.int .i64 n)).heap[gr]? = some (.cells #[.int .i64 0, .int .i64 0] 23 (0, 0))) := ⟨box_stays HR9 ((hb10.setCell (p := ⟨gq, 0, none⟩) (Nat.le_of_eq GQ.out.symm) _).setCell (p := ⟨gq, 1, none⟩) (Nat.le_of_eq GQ.out.symm) _)⟩
  generalize ((w10.setCell ⟨gq, 0, none⟩ (.int .i64 kd)).setCell ⟨gq, 1, none⟩ (.int .i64 n)) = w11 at HBX HQ HRX ⊢
  clear qa0 qa1 qa2 qa3 hq10 ud0 ud1 ud2 ud3
  have qb0 : w11.cell? ⟨gq, 0, none⟩ = some (.int .i64 kd) := (blk_cell HQ.out 0).trans rfl; have qb1 : w11.cell? ⟨gq, 1, none⟩ = some (.int .i64 n) := (blk_cell HQ.out 1).trans rfl; have qb2 := blk_frozen HQ.out 0; have qb3 := blk_frozen HQ.out 1
  go_wp2_with (first
    | (go_at_call 12; refine (unit_Check.calls k kd n 0 _ hc).mono ?_; rintro e w12 ⟨rfl, hb12⟩; have HR12 := box_stays HRX.out hb12; have HQ12 := box_stays HQ.out hb12; have rd0 : w12.cell? ⟨gr, 0, none⟩ = some (.int .i64 0) := (blk_cell HR12 0).trans rfl; have rd1 : w12.cell? ⟨gr, 1, none⟩ = some (.int .i64 0) := (blk_cell HR12 1).trans rfl; have rd2 := blk_frozen HR12 0; have rd3 := blk_frozen HR12 1; have qc0 : w12.cell? ⟨gq, 0, none⟩ = some (.int .i64 kd) := (blk_cell HQ12 0).trans rfl; have qc1 : w12.cell? ⟨gq, 1, none⟩ = some (.int .i64 n) := (blk_cell HQ12 1).trans rfl; have qc2 := blk_frozen HQ12 0; have qc3 := blk_frozen HQ12 1)
    | go_in)
  (try simp only [Exit.inBlock, Exit.then])
  refine bodyPost_ret (results_ct rfl _ _ gr 23 #[.int .i64 kd, .int .i64 n] (0, 0) _ rfl (blk_put (cs := #[.int .i64 kd, .int .i64 0]) (blk_put (cs := #[.int .i64 0, .int .i64 0]) HR12 0 _ rfl) 1 _ rfl) Tryz.underlying23 rfl (by kernel_rfl)) rfl ?_
  exact ⟨rfl, ((below_step HBX.out hb12).setCell (p := ⟨gr, 0, none⟩) (Nat.le_of_eq GR.out.symm) _).setCell (p := ⟨gr, 1, none⟩) (Nat.le_of_eq GR.out.symm) _⟩
set_option maxHeartbeats 8000000 in
set_option maxRecDepth 100000 in
theorem unit_Parse.d10 (k : Nat) (a0 : ByteArray) (w : World) (hG : GI w) (hle : ¬ (a0.size : Int) > 64) (hd nm : ByteArray) (fd : Bool) (hct : strings_Cut.f a0 ⟨#[32]⟩ = some (hd, nm, fd)) (hn : nm.size ≤ 1000) (al : ByteArray) (pn : Int) (mi ok : Bool) (hnum : unit_number.f hd = some (al, pn, mi, ok)) (kd : Int) (zn : Nat) (hu : unitAt nm.data.toList = some (kd, (zn : Int))) (hok : ok = true) (hmi : mi = true) (hpz : ¬ pn > (zn : Int)) (RZ SS TL : ByteArray) (cnt : Nat) (hcl : cnt ≤ 100) (hcnt : wrap64 ((zn : Int) - pn) = (cnt : Int)) (hRZ : RZ.data.toList = List.replicate cnt 48) (hsz : al.size + RZ.size ≤ 2000) (hSS : al ++ RZ = SS) (hTL : strings_TrimLeft.f SS ⟨#[48]⟩ = some TL) (hlen : ¬ (TL.size : Int) > 18) (AT : ByteArray) (n : Int) (hAA : ⟨#[48]⟩ ++ TL = AT) (hn0 : 0 ≤ n) (hn1 : n ≤ 1000000000000000000) (hAT : strconv_Atoi.f AT = some (n, none)) (e0 : Int) (hc : unit_Check.f k kd (-n) = some e0) (he : ¬ e0 = 0) :
    Calls Tryz.prog 7 #[.string a0] w fun e w' => e = .returned (.tuple #[.agg #[.int .i64 0, .int .i64 0], .int .i64 e0]) ∧ Below w.heap.size w w' := by
  have HG := Aside0.mk hG
  clear hG
  have hu23 := Tryz.underlying23
  have hu48 := Tryz.underlying38
  subst hok hmi
  have c9 : (e0 != 0) = true := bne_iff_ne.mpr he
  have c2 : decide (pn > (zn : Int)) = false := decide_eq_false hpz
  have c3 : decide ((TL.size : Int) > 18) = false := decide_eq_false hlen
  have hneg : wrap64 (-n) = -n := w64 (by omega) (by omega)
  have ha2 : ∀ w, (Op.stringOp .add ⟨#[48]⟩ TL).run Tryz.prog w = .ok (.string AT) w := fun w => hAA ▸ run_string_add_sum _ _ _ (by show 1 + TL.size ≤ _; omega)
  clear hAA
  have ha1 : ∀ w, (Op.stringOp .add al RZ).run Tryz.prog w = .ok (.string SS) w := fun w => hSS ▸ run_string_add_sum _ _ _ (by omega)
  have HTL := Aside0.mk hTL
  have HRZ := Aside0.mk hRZ
  clear hSS hTL hRZ hsz
  have c1 : decide ((a0.size : Int) > 64) = false := decide_eq_false hle
  go_enter Tryz.func7, Tryz.ntmps7
  go_upto_region 5 with (first
    | ((with_reducible refine gate_dst (N := 2) rfl ?_); refine box_event ?hg (N := 2) ?hd (cs := #[.int .i64 0, .int .i64 0]) (t := 23) ?hr ?_; (case hd => rfl); (case hg => rfl); (case hr => first | (go_simp; done) | (go_simp; rfl)); intro gr hgr w1 hbox1 hb1; have GR := Aside0.mk hgr; clear hgr; have ra0 : w1.cell? ⟨gr, 0, none⟩ = some (.int .i64 0) := (blk_cell hbox1 0).trans rfl; have ra1 : w1.cell? ⟨gr, 1, none⟩ = some (.int .i64 0) := (blk_cell hbox1 1).trans rfl; have ra2 := blk_frozen hbox1 0; have ra3 := blk_frozen hbox1 1; have HB1 := Aside0.mk hb1; have HG1 := Aside0.mk (GI.below HG.out hb1))
    | (go_at_call 20; refine (strings_Cut.calls _ _ _ _ _ _ HG1.out hct).mono ?_; rintro e w2 ⟨rfl, hb2⟩; have hbox2 := box_stays hbox1 hb2)
    | (go_at_call 13; refine (unit_units.calls _).mono ?_; rintro e w3 ⟨b, rfl, hm3, hb3, hle3⟩; have hlk := look_yes hm3 hn hu; have hbox3 := box_stays hbox2 hb3)
    | ((with_reducible refine gate_dst (N := 7) rfl ?_); refine box_event ?hg (N := 7) ?hd (cs := #[.int .i64 0, .int .i64 0]) (t := 38) ?hr ?_; (case hd => rfl); (case hg => rfl); (case hr => first | (go_simp; done) | (go_simp; rfl)); intro gu hgu w4 hu4 hb4; have GU := Aside0.mk hgu; clear hgu; have ua0 : w4.cell? ⟨gu, 0, none⟩ = some (.int .i64 0) := (blk_cell hu4 0).trans rfl; have ua1 : w4.cell? ⟨gu, 1, none⟩ = some (.int .i64 0) := (blk_cell hu4 1).trans rfl; have ua2 := blk_frozen hu4 0; have ua3 := blk_frozen hu4 1))
  have HBW : Aside0 (Below w.heap.size w ((w4.setCell ⟨gu, 0, none⟩ (.int .i64 kd)).setCell ⟨gu, 1, none⟩ (.int .i64 zn))) := ⟨below_step (below_step (below_step HB1.out hb2) hb3) ((hb4.setCell (p := ⟨gu, 0, none⟩) (Nat.le_of_eq GU.out.symm) _).setCell (p := ⟨gu, 1, none⟩) (Nat.le_of_eq GU.out.symm) _)⟩
  have HU : Aside0 (((w4.setCell ⟨gu, 0, none⟩ (.int .i64 kd)).setCell ⟨gu, 1, none⟩ (.int .i64 zn)).heap[gu]? = some (.cells #[.int .i64 kd, .int .i64 zn] 38 (0, 0))) := ⟨blk_put (cs := #[.int .i64 kd, .int .i64 0]) (blk_put (cs := #[.int .i64 0, .int .i64 0]) hu4 0 _ rfl) 1 _ rfl⟩
  have HR : Aside0 (((w4.setCell ⟨gu, 0, none⟩ (.int .i64 kd)).setCell ⟨gu, 1, none⟩ (.int .i64 zn)).heap[gr]? = some (.cells #[.int .i64 0, .int .i64 0] 23 (0, 0))) := ⟨box_stays hbox3 ((hb4.setCell (p := ⟨gu, 0, none⟩) (Nat.le_of_eq GU.out.symm) _).setCell (p := ⟨gu, 1, none⟩) (Nat.le_of_eq GU.out.symm) _)⟩
  generalize ((w4.setCell ⟨gu, 0, none⟩ (.int .i64 kd)).setCell ⟨gu, 1, none⟩ (.int .i64 zn)) = w5 at HBW HU HR ⊢
  clear ua0 ua1 ua2 ua3 hu4 ra0 ra1 ra2 ra3 hbox1 hbox2 hbox3
  go_upto_region 16 with (first
    | (go_at_call 21; refine (unit_number.calls _ _ _ _ _ _ (GI.below HG.out HBW.out) hnum).mono ?_; rintro e w6 ⟨rfl, hb6⟩; have HR6 := box_stays HR.out hb6; have HU6 := box_stays HU.out hb6; have rb0 : w6.cell? ⟨gr, 0, none⟩ = some (.int .i64 0) := (blk_cell HR6 0).trans rfl; have rb1 : w6.cell? ⟨gr, 1, none⟩ = some (.int .i64 0) := (blk_cell HR6 1).trans rfl; have rb2 := blk_frozen HR6 0; have rb3 := blk_frozen HR6 1; have ub0 : w6.cell? ⟨gu, 0, none⟩ = some (.int .i64 kd) := (blk_cell HU6 0).trans rfl; have ub1 : w6.cell? ⟨gu, 1, none⟩ = some (.int .i64 zn) := (blk_cell HU6 1).trans rfl; have ub2 := blk_frozen HU6 0; have ub3 := blk_frozen HU6 1)
    | (go_at_call 15; (try rw [hcnt]); refine (rep_zero cnt hcl _).mono ?_; rw [show (⟨(List.replicate cnt (48 : UInt8)).toArray⟩ : ByteArray) = RZ from (bytes_ext HRZ.out).symm]; rintro e w7 ⟨rfl, hb7⟩)
    | (go_at_call 22; refine (strings_TrimLeft.calls _ _ _ _ HTL.out).mono ?_; rintro e w8 ⟨rfl, hb8⟩; have HR8 := box_stays (box_stays HR6 hb7) hb8; have HU8 := box_stays (box_stays HU6 hb7) hb8; have HB8 := Aside0.mk (below_step (below_step (below_step HBW.out hb6) hb7) hb8); have rc0 : w8.cell? ⟨gr, 0, none⟩ = some (.int .i64 0) := (blk_cell HR8 0).trans rfl; have rc1 : w8.cell? ⟨gr, 1, none⟩ = some (.int .i64 0) := (blk_cell HR8 1).trans rfl; have rc2 := blk_frozen HR8 0; have rc3 := blk_frozen HR8 1; have uc0 : w8.cell? ⟨gu, 0, none⟩ = some (.int .i64 kd) := (blk_cell HU8 0).trans rfl; have uc1 : w8.cell? ⟨gu, 1, none⟩ = some (.int .i64 zn) := (blk_cell HU8 1).trans rfl; have uc2 := blk_frozen HU8 0; have uc3 := blk_frozen HU8 1)
    | (go_at_call 23; refine (strconv_Atoi.oks _ _ _ (GI.below HG.out HB8.out) hAT).mono ?_; rintro e w9 ⟨rfl, hb9⟩; have HR9 := box_stays HR8 hb9; have HU9 := box_stays HU8 hb9; have HB9 := Aside0.mk (below_step HB8.out hb9); have ud0 : w9.cell? ⟨gu, 0, none⟩ = some (.int .i64 kd) := (blk_cell HU9 0).trans rfl; have ud1 : w9.cell? ⟨gu, 1, none⟩ = some (.int .i64 zn) := (blk_cell HU9 1).trans rfl; have ud2 := blk_frozen HU9 0; have ud3 := blk_frozen HU9 1))
  clear rb0 rb1 rb2 rb3 rc0 rc1 rc2 rc3 ub0 ub1 ub2 ub3 uc0 uc1 uc2 uc3
  go_upto_region 17 with (first
    | ((with_reducible refine gate_dst (N := 15) rfl ?_); refine box_event ?hg (N := 15) ?hd (cs := #[.int .i64 0, .int .i64 0]) (t := 23) ?hr ?_; (case hd => rfl); (case hg => rfl); (case hr => first | (go_simp; done) | (go_simp; rfl)); intro gq hgq w10 hq10 hb10; have GQ := Aside0.mk hgq; clear hgq; have qa0 : w10.cell? ⟨gq, 0, none⟩ = some (.int .i64 0) := (blk_cell hq10 0).trans rfl; have qa1 : w10.cell? ⟨gq, 1, none⟩ = some (.int .i64 0) := (blk_cell hq10 1).trans rfl; have qa2 := blk_frozen hq10 0; have qa3 := blk_frozen hq10 1))
  have HBX : Aside0 (Below w.heap.size w ((w10.setCell ⟨gq, 0, none⟩ (.int .i64 kd)).setCell ⟨gq, 1, none⟩ (.int .i64 (-n)))) := ⟨below_step HB9.out ((hb10.setCell (p := ⟨gq, 0, none⟩) (Nat.le_of_eq GQ.out.symm) _).setCell (p := ⟨gq, 1, none⟩) (Nat.le_of_eq GQ.out.symm) _)⟩
  have HQ : Aside0 (((w10.setCell ⟨gq, 0, none⟩ (.int .i64 kd)).setCell ⟨gq, 1, none⟩ (.int .i64 (-n))).heap[gq]? = some (.cells #[.int .i64 kd, .int .i64 (-n)] 23 (0, 0))) := ⟨blk_put (cs := #[.int .i64 kd, .int .i64 0]) (blk_put (cs := #[.int .i64 0, .int .i64 0]) hq10 0 _ rfl) 1 _ rfl⟩
  have HRX : Aside0 (((w10.setCell ⟨gq, 0, none⟩ (.int .i64 kd)).setCell ⟨gq, 1, none⟩ (.int .i64 (-n))).heap[gr]? = some (.cells #[.int .i64 0, .int .i64 0] 23 (0, 0))) := ⟨box_stays HR9 ((hb10.setCell (p := ⟨gq, 0, none⟩) (Nat.le_of_eq GQ.out.symm) _).setCell (p := ⟨gq, 1, none⟩) (Nat.le_of_eq GQ.out.symm) _)⟩
  generalize ((w10.setCell ⟨gq, 0, none⟩ (.int .i64 kd)).setCell ⟨gq, 1, none⟩ (.int .i64 (-n))) = w11 at HBX HQ HRX ⊢
  clear qa0 qa1 qa2 qa3 hq10 ud0 ud1 ud2 ud3
  have qb0 : w11.cell? ⟨gq, 0, none⟩ = some (.int .i64 kd) := (blk_cell HQ.out 0).trans rfl; have qb1 : w11.cell? ⟨gq, 1, none⟩ = some (.int .i64 (-n)) := (blk_cell HQ.out 1).trans rfl; have qb2 := blk_frozen HQ.out 0; have qb3 := blk_frozen HQ.out 1
  go_wp2_with (first
    | (go_at_call 12; refine (unit_Check.calls k kd (-n) e0 _ hc).mono ?_; rintro e w12 ⟨rfl, hb12⟩; have HR12 := box_stays HRX.out hb12; have HQ12 := box_stays HQ.out hb12; have rd0 : w12.cell? ⟨gr, 0, none⟩ = some (.int .i64 0) := (blk_cell HR12 0).trans rfl; have rd1 : w12.cell? ⟨gr, 1, none⟩ = some (.int .i64 0) := (blk_cell HR12 1).trans rfl; have rd2 := blk_frozen HR12 0; have rd3 := blk_frozen HR12 1; have qc0 : w12.cell? ⟨gq, 0, none⟩ = some (.int .i64 kd) := (blk_cell HQ12 0).trans rfl; have qc1 : w12.cell? ⟨gq, 1, none⟩ = some (.int .i64 (-n)) := (blk_cell HQ12 1).trans rfl; have qc2 := blk_frozen HQ12 0; have qc3 := blk_frozen HQ12 1)
    | go_in)
  (try simp only [Exit.inBlock, Exit.then])
  refine bodyPost_ret (results_ct rfl _ _ gr 23 #[.int .i64 0, .int .i64 0] (0, 0) _ rfl (blk_put (cs := #[.int .i64 0, .int .i64 0]) (blk_put (cs := #[.int .i64 0, .int .i64 0]) HR12 0 _ rfl) 1 _ rfl) Tryz.underlying23 rfl (by kernel_rfl)) rfl ?_
  exact ⟨rfl, ((below_step HBX.out hb12).setCell (p := ⟨gr, 0, none⟩) (Nat.le_of_eq GR.out.symm) _).setCell (p := ⟨gr, 1, none⟩) (Nat.le_of_eq GR.out.symm) _⟩
set_option maxHeartbeats 8000000 in
set_option maxRecDepth 100000 in
theorem unit_Parse.d11 (k : Nat) (a0 : ByteArray) (w : World) (hG : GI w) (hle : ¬ (a0.size : Int) > 64) (hd nm : ByteArray) (fd : Bool) (hct : strings_Cut.f a0 ⟨#[32]⟩ = some (hd, nm, fd)) (hn : nm.size ≤ 1000) (al : ByteArray) (pn : Int) (mi ok : Bool) (hnum : unit_number.f hd = some (al, pn, mi, ok)) (kd : Int) (zn : Nat) (hu : unitAt nm.data.toList = some (kd, (zn : Int))) (hok : ok = true) (hmi : mi = true) (hpz : ¬ pn > (zn : Int)) (RZ SS TL : ByteArray) (cnt : Nat) (hcl : cnt ≤ 100) (hcnt : wrap64 ((zn : Int) - pn) = (cnt : Int)) (hRZ : RZ.data.toList = List.replicate cnt 48) (hsz : al.size + RZ.size ≤ 2000) (hSS : al ++ RZ = SS) (hTL : strings_TrimLeft.f SS ⟨#[48]⟩ = some TL) (hlen : ¬ (TL.size : Int) > 18) (AT : ByteArray) (n : Int) (hAA : ⟨#[48]⟩ ++ TL = AT) (hn0 : 0 ≤ n) (hn1 : n ≤ 1000000000000000000) (hAT : strconv_Atoi.f AT = some (n, none)) (e0 : Int) (hc : unit_Check.f k kd (-n) = some e0) (he : e0 = 0) :
    Calls Tryz.prog 7 #[.string a0] w fun e w' => e = .returned (.tuple #[.agg #[.int .i64 kd, .int .i64 (-n)], .int .i64 0]) ∧ Below w.heap.size w w' := by
  have HG := Aside0.mk hG
  clear hG
  have hu23 := Tryz.underlying23
  have hu48 := Tryz.underlying38
  subst hok hmi
  subst he
  have c2 : decide (pn > (zn : Int)) = false := decide_eq_false hpz
  have c3 : decide ((TL.size : Int) > 18) = false := decide_eq_false hlen
  have hneg : wrap64 (-n) = -n := w64 (by omega) (by omega)
  have ha2 : ∀ w, (Op.stringOp .add ⟨#[48]⟩ TL).run Tryz.prog w = .ok (.string AT) w := fun w => hAA ▸ run_string_add_sum _ _ _ (by show 1 + TL.size ≤ _; omega)
  clear hAA
  have ha1 : ∀ w, (Op.stringOp .add al RZ).run Tryz.prog w = .ok (.string SS) w := fun w => hSS ▸ run_string_add_sum _ _ _ (by omega)
  have HTL := Aside0.mk hTL
  have HRZ := Aside0.mk hRZ
  clear hSS hTL hRZ hsz
  have c1 : decide ((a0.size : Int) > 64) = false := decide_eq_false hle
  go_enter Tryz.func7, Tryz.ntmps7
  go_upto_region 5 with (first
    | ((with_reducible refine gate_dst (N := 2) rfl ?_); refine box_event ?hg (N := 2) ?hd (cs := #[.int .i64 0, .int .i64 0]) (t := 23) ?hr ?_; (case hd => rfl); (case hg => rfl); (case hr => first | (go_simp; done) | (go_simp; rfl)); intro gr hgr w1 hbox1 hb1; have GR := Aside0.mk hgr; clear hgr; have ra0 : w1.cell? ⟨gr, 0, none⟩ = some (.int .i64 0) := (blk_cell hbox1 0).trans rfl; have ra1 : w1.cell? ⟨gr, 1, none⟩ = some (.int .i64 0) := (blk_cell hbox1 1).trans rfl; have ra2 := blk_frozen hbox1 0; have ra3 := blk_frozen hbox1 1; have HB1 := Aside0.mk hb1; have HG1 := Aside0.mk (GI.below HG.out hb1))
    | (go_at_call 20; refine (strings_Cut.calls _ _ _ _ _ _ HG1.out hct).mono ?_; rintro e w2 ⟨rfl, hb2⟩; have hbox2 := box_stays hbox1 hb2)
    | (go_at_call 13; refine (unit_units.calls _).mono ?_; rintro e w3 ⟨b, rfl, hm3, hb3, hle3⟩; have hlk := look_yes hm3 hn hu; have hbox3 := box_stays hbox2 hb3)
    | ((with_reducible refine gate_dst (N := 7) rfl ?_); refine box_event ?hg (N := 7) ?hd (cs := #[.int .i64 0, .int .i64 0]) (t := 38) ?hr ?_; (case hd => rfl); (case hg => rfl); (case hr => first | (go_simp; done) | (go_simp; rfl)); intro gu hgu w4 hu4 hb4; have GU := Aside0.mk hgu; clear hgu; have ua0 : w4.cell? ⟨gu, 0, none⟩ = some (.int .i64 0) := (blk_cell hu4 0).trans rfl; have ua1 : w4.cell? ⟨gu, 1, none⟩ = some (.int .i64 0) := (blk_cell hu4 1).trans rfl; have ua2 := blk_frozen hu4 0; have ua3 := blk_frozen hu4 1))
  have HBW : Aside0 (Below w.heap.size w ((w4.setCell ⟨gu, 0, none⟩ (.int .i64 kd)).setCell ⟨gu, 1, none⟩ (.int .i64 zn))) := ⟨below_step (below_step (below_step HB1.out hb2) hb3) ((hb4.setCell (p := ⟨gu, 0, none⟩) (Nat.le_of_eq GU.out.symm) _).setCell (p := ⟨gu, 1, none⟩) (Nat.le_of_eq GU.out.symm) _)⟩
  have HU : Aside0 (((w4.setCell ⟨gu, 0, none⟩ (.int .i64 kd)).setCell ⟨gu, 1, none⟩ (.int .i64 zn)).heap[gu]? = some (.cells #[.int .i64 kd, .int .i64 zn] 38 (0, 0))) := ⟨blk_put (cs := #[.int .i64 kd, .int .i64 0]) (blk_put (cs := #[.int .i64 0, .int .i64 0]) hu4 0 _ rfl) 1 _ rfl⟩
  have HR : Aside0 (((w4.setCell ⟨gu, 0, none⟩ (.int .i64 kd)).setCell ⟨gu, 1, none⟩ (.int .i64 zn)).heap[gr]? = some (.cells #[.int .i64 0, .int .i64 0] 23 (0, 0))) := ⟨box_stays hbox3 ((hb4.setCell (p := ⟨gu, 0, none⟩) (Nat.le_of_eq GU.out.symm) _).setCell (p := ⟨gu, 1, none⟩) (Nat.le_of_eq GU.out.symm) _)⟩
  generalize ((w4.setCell ⟨gu, 0, none⟩ (.int .i64 kd)).setCell ⟨gu, 1, none⟩ (.int .i64 zn)) = w5 at HBW HU HR ⊢
  clear ua0 ua1 ua2 ua3 hu4 ra0 ra1 ra2 ra3 hbox1 hbox2 hbox3
  go_upto_region 16 with (first
    | (go_at_call 21; refine (unit_number.calls _ _ _ _ _ _ (GI.below HG.out HBW.out) hnum).mono ?_; rintro e w6 ⟨rfl, hb6⟩; have HR6 := box_stays HR.out hb6; have HU6 := box_stays HU.out hb6; have rb0 : w6.cell? ⟨gr, 0, none⟩ = some (.int .i64 0) := (blk_cell HR6 0).trans rfl; have rb1 : w6.cell? ⟨gr, 1, none⟩ = some (.int .i64 0) := (blk_cell HR6 1).trans rfl; have rb2 := blk_frozen HR6 0; have rb3 := blk_frozen HR6 1; have ub0 : w6.cell? ⟨gu, 0, none⟩ = some (.int .i64 kd) := (blk_cell HU6 0).trans rfl; have ub1 : w6.cell? ⟨gu, 1, none⟩ = some (.int .i64 zn) := (blk_cell HU6 1).trans rfl; have ub2 := blk_frozen HU6 0; have ub3 := blk_frozen HU6 1)
    | (go_at_call 15; (try rw [hcnt]); refine (rep_zero cnt hcl _).mono ?_; rw [show (⟨(List.replicate cnt (48 : UInt8)).toArray⟩ : ByteArray) = RZ from (bytes_ext HRZ.out).symm]; rintro e w7 ⟨rfl, hb7⟩)
    | (go_at_call 22; refine (strings_TrimLeft.calls _ _ _ _ HTL.out).mono ?_; rintro e w8 ⟨rfl, hb8⟩; have HR8 := box_stays (box_stays HR6 hb7) hb8; have HU8 := box_stays (box_stays HU6 hb7) hb8; have HB8 := Aside0.mk (below_step (below_step (below_step HBW.out hb6) hb7) hb8); have rc0 : w8.cell? ⟨gr, 0, none⟩ = some (.int .i64 0) := (blk_cell HR8 0).trans rfl; have rc1 : w8.cell? ⟨gr, 1, none⟩ = some (.int .i64 0) := (blk_cell HR8 1).trans rfl; have rc2 := blk_frozen HR8 0; have rc3 := blk_frozen HR8 1; have uc0 : w8.cell? ⟨gu, 0, none⟩ = some (.int .i64 kd) := (blk_cell HU8 0).trans rfl; have uc1 : w8.cell? ⟨gu, 1, none⟩ = some (.int .i64 zn) := (blk_cell HU8 1).trans rfl; have uc2 := blk_frozen HU8 0; have uc3 := blk_frozen HU8 1)
    | (go_at_call 23; refine (strconv_Atoi.oks _ _ _ (GI.below HG.out HB8.out) hAT).mono ?_; rintro e w9 ⟨rfl, hb9⟩; have HR9 := box_stays HR8 hb9; have HU9 := box_stays HU8 hb9; have HB9 := Aside0.mk (below_step HB8.out hb9); have ud0 : w9.cell? ⟨gu, 0, none⟩ = some (.int .i64 kd) := (blk_cell HU9 0).trans rfl; have ud1 : w9.cell? ⟨gu, 1, none⟩ = some (.int .i64 zn) := (blk_cell HU9 1).trans rfl; have ud2 := blk_frozen HU9 0; have ud3 := blk_frozen HU9 1))
  clear rb0 rb1 rb2 rb3 rc0 rc1 rc2 rc3 ub0 ub1 ub2 ub3 uc0 uc1 uc2 uc3
  go_upto_region 17 with (first
    | ((with_reducible refine gate_dst (N := 15) rfl ?_); refine box_event ?hg (N := 15) ?hd (cs := #[.int .i64 0, .int .i64 0]) (t := 23) ?hr ?_; (case hd => rfl); (case hg => rfl); (case hr => first | (go_simp; done) | (go_simp; rfl)); intro gq hgq w10 hq10 hb10; have GQ := Aside0.mk hgq; clear hgq; have qa0 : w10.cell? ⟨gq, 0, none⟩ = some (.int .i64 0) := (blk_cell hq10 0).trans rfl; have qa1 : w10.cell? ⟨gq, 1, none⟩ = some (.int .i64 0) := (blk_cell hq10 1).trans rfl; have qa2 := blk_frozen hq10 0; have qa3 := blk_frozen hq10 1))
  have HBX : Aside0 (Below w.heap.size w ((w10.setCell ⟨gq, 0, none⟩ (.int .i64 kd)).setCell ⟨gq, 1, none⟩ (.int .i64 (-n)))) := ⟨below_step HB9.out ((hb10.setCell (p := ⟨gq, 0, none⟩) (Nat.le_of_eq GQ.out.symm) _).setCell (p := ⟨gq, 1, none⟩) (Nat.le_of_eq GQ.out.symm) _)⟩
  have HQ : Aside0 (((w10.setCell ⟨gq, 0, none⟩ (.int .i64 kd)).setCell ⟨gq, 1, none⟩ (.int .i64 (-n))).heap[gq]? = some (.cells #[.int .i64 kd, .int .i64 (-n)] 23 (0, 0))) := ⟨blk_put (cs := #[.int .i64 kd, .int .i64 0]) (blk_put (cs := #[.int .i64 0, .int .i64 0]) hq10 0 _ rfl) 1 _ rfl⟩
  have HRX : Aside0 (((w10.setCell ⟨gq, 0, none⟩ (.int .i64 kd)).setCell ⟨gq, 1, none⟩ (.int .i64 (-n))).heap[gr]? = some (.cells #[.int .i64 0, .int .i64 0] 23 (0, 0))) := ⟨box_stays HR9 ((hb10.setCell (p := ⟨gq, 0, none⟩) (Nat.le_of_eq GQ.out.symm) _).setCell (p := ⟨gq, 1, none⟩) (Nat.le_of_eq GQ.out.symm) _)⟩
  generalize ((w10.setCell ⟨gq, 0, none⟩ (.int .i64 kd)).setCell ⟨gq, 1, none⟩ (.int .i64 (-n))) = w11 at HBX HQ HRX ⊢
  clear qa0 qa1 qa2 qa3 hq10 ud0 ud1 ud2 ud3
  have qb0 : w11.cell? ⟨gq, 0, none⟩ = some (.int .i64 kd) := (blk_cell HQ.out 0).trans rfl; have qb1 : w11.cell? ⟨gq, 1, none⟩ = some (.int .i64 (-n)) := (blk_cell HQ.out 1).trans rfl; have qb2 := blk_frozen HQ.out 0; have qb3 := blk_frozen HQ.out 1
  go_wp2_with (first
    | (go_at_call 12; refine (unit_Check.calls k kd (-n) 0 _ hc).mono ?_; rintro e w12 ⟨rfl, hb12⟩; have HR12 := box_stays HRX.out hb12; have HQ12 := box_stays HQ.out hb12; have rd0 : w12.cell? ⟨gr, 0, none⟩ = some (.int .i64 0) := (blk_cell HR12 0).trans rfl; have rd1 : w12.cell? ⟨gr, 1, none⟩ = some (.int .i64 0) := (blk_cell HR12 1).trans rfl; have rd2 := blk_frozen HR12 0; have rd3 := blk_frozen HR12 1; have qc0 : w12.cell? ⟨gq, 0, none⟩ = some (.int .i64 kd) := (blk_cell HQ12 0).trans rfl; have qc1 : w12.cell? ⟨gq, 1, none⟩ = some (.int .i64 (-n)) := (blk_cell HQ12 1).trans rfl; have qc2 := blk_frozen HQ12 0; have qc3 := blk_frozen HQ12 1)
    | go_in)
  (try simp only [Exit.inBlock, Exit.then])
  refine bodyPost_ret (results_ct rfl _ _ gr 23 #[.int .i64 kd, .int .i64 (-n)] (0, 0) _ rfl (blk_put (cs := #[.int .i64 kd, .int .i64 0]) (blk_put (cs := #[.int .i64 0, .int .i64 0]) HR12 0 _ rfl) 1 _ rfl) Tryz.underlying23 rfl (by kernel_rfl)) rfl ?_
  exact ⟨rfl, ((below_step HBX.out hb12).setCell (p := ⟨gr, 0, none⟩) (Nat.le_of_eq GR.out.symm) _).setCell (p := ⟨gr, 1, none⟩) (Nat.le_of_eq GR.out.symm) _⟩
end Go.Proofs.YtmjglehdckgcnaaGreatDoor.Pr
namespace Go.Proofs.YtmjglehdckgcnaaGreatDoor.Pr
open Go Go.RowKit Go.Maps Go.WideMaps Go.Lib Go.Proofs.YtmjglehdckgcnaaGreatDoorW.PrintWords Go.Proofs.YtmjglehdckgcnaaGreatDoorW.PrintLast Go.Proofs.YtmjglehdckgcnaaGreatDoorW.PrintMore Go.Proofs.YtmjglehdckgcnaaGreatDoor.X Go.Proofs.YtmjglehdckgcnaaGreatDoor.TX Go.Proofs.YtmjglehdckgcnaaGreatDoor.PL
theorem suffix_last (p : List UInt8) : hasSuffix p [48] = true ↔ p.getLast? = some 48 := by
  unfold hasSuffix
  rw [List.isSuffixOf_iff_suffix]
  constructor
  · rintro ⟨t, rfl⟩
    exact List.getLast?_concat
  · intro h
    have hne : p ≠ [] := by rintro rfl; cases h
    refine ⟨p.dropLast, ?_⟩
    rw [List.getLast?_eq_some_getLast hne] at h
    rw [← Option.some.inj h]
    exact List.dropLast_concat_getLast hne
theorem badB_iff (c : Bool) (w p : ByteArray) (pt : Bool) : badB c w p pt = true ↔ numBad c w.data.toList p.data.toList pt := by
  unfold badB numBad
  rw [Bool.or_eq_true, Bool.or_eq_true, Bool.or_eq_true, Bool.or_eq_true, Bool.and_eq_true, Bool.and_eq_true, Bool.and_eq_true, Bool.or_eq_true, empty_list, empty_list, suffix_last, List.isEmpty_iff, List.isEmpty_iff, List.isEmpty_iff,
    decide_eq_true_eq, decide_eq_true_eq, decide_eq_true_eq, size_list (w ++ p), app_list, size_list w]
  constructor
  · rintro ((((h | ⟨h1, h2⟩) | h) | h) | h)
    · exact Or.inl h
    · exact Or.inr (Or.inl ⟨by omega, h2⟩)
    · exact Or.inr (Or.inr (Or.inl h))
    · exact Or.inr (Or.inr (Or.inr (Or.inl h)))
    · exact Or.inr (Or.inr (Or.inr (Or.inr (by omega))))
  · rintro (h | ⟨h1, h2⟩ | h | h | h)
    · exact Or.inl (Or.inl (Or.inl (Or.inl h)))
    · exact Or.inl (Or.inl (Or.inl (Or.inr ⟨by omega, h2⟩)))
    · exact Or.inl (Or.inl (Or.inr h))
    · exact Or.inl (Or.inr h)
    · exact Or.inr (by omega)
theorem number_yes {s : ByteArray} (hs : s.size ≤ 1000) {neg : Bool} {wl pl : List UInt8} (h : numT s.data.toList = some (neg, wl, pl)) :
    unit_number.f s = some (⟨(wl ++ pl).toArray⟩, (pl.length : Int), neg, true) := by
  unfold numT at h
  split at h
  · rename_i ok
    obtain ⟨h1, h2⟩ := (numOk_iff _).1 ok
    simp only [Option.some.injEq, Prod.mk.injEq] at h
    obtain ⟨rfl, rfl, rfl⟩ := h
    have hb : badB (minusCut s.data.toList).1 (wholeB s) (placesB s) (cut1 46 (minusCut s.data.toList).2).2.2 = false := by
      cases q : badB (minusCut s.data.toList).1 (wholeB s) (placesB s) (cut1 46 (minusCut s.data.toList).2).2.2 with
      | false => rfl
      | true => exact absurd ((badB_iff _ _ _ _).1 q) h2
    have ha : (wholeB s ++ placesB s).data.toList.all isDig = true := by rw [app_list]; exact h1
    unfold unit_number.f
    rw [if_pos hs, if_pos ha, hb]
    have e1 : wholeB s ++ placesB s = ⟨((cut1 46 (minusCut s.data.toList).2).1 ++ (cut1 46 (minusCut s.data.toList).2).2.1).toArray⟩ := bytes_ext (by rw [app_list]; rfl)
    have e2 : ((placesB s).size : Int) = ((cut1 46 (minusCut s.data.toList).2).2.1.length : Int) := by rw [size_list]; rfl
    rw [e1, e2]
    rfl
  · cases h
theorem number_no {s : ByteArray} (hs : s.size ≤ 1000) (h : numT s.data.toList = none) : ∃ al pn mi, unit_number.f s = some (al, pn, mi, false) := by
  unfold numT at h
  split at h
  · cases h
  · rename_i ok
    unfold unit_number.f
    rw [if_pos hs]
    by_cases ha : (wholeB s ++ placesB s).data.toList.all isDig = true
    · rw [if_pos ha]
      have hb : badB (minusCut s.data.toList).1 (wholeB s) (placesB s) (cut1 46 (minusCut s.data.toList).2).2.2 = true := by
        rw [badB_iff]
        apply Classical.byContradiction
        intro q
        refine ok ((numOk_iff _).2 ⟨?_, q⟩)
        rw [app_list] at ha
        exact ha
      rw [hb]
      exact ⟨_, _, _, rfl⟩
    · rw [if_neg ha]
      exact ⟨_, _, _, rfl⟩
def signed (neg : Bool) (n : Nat) : Int := if neg = true then -(n : Int) else (n : Int)
def parse2 (k : Nat) (kd : Int) (z : Nat) (neg : Bool) (wl pl : List UInt8) : Option (Int × Int × Int) :=
  if z < pl.length then some (0, 0, 2) else if 18 < (trimLeftS (wl ++ (pl ++ List.replicate (z - pl.length) 48)) [48]).length then some (0, 0, 2)
  else (unit_Check.f k kd (signed neg (valT z wl pl))).bind fun e => if e = 0 then some (kd, signed neg (valT z wl pl), 0) else some (0, 0, e)
def parse1 (k : Nat) (a0 : ByteArray) : Option (Int × Int × Int) :=
  match unitAt (cut1 32 a0.data.toList).2.1 with
  | none => some (0, 0, 3)
  | some p => (match numT (cut1 32 a0.data.toList).1 with
    | none => some (0, 0, 3)
    | some q => parse2 k p.1 p.2.toNat q.1 q.2.1 q.2.2)
def unit_Parse.f (k : Nat) (a0 : ByteArray) : Option (Int × Int × Int) :=
  if 12 ≤ k ∧ a0.size ≤ 1000 then (if (a0.size : Int) > 64 then some (0, 0, 8) else parse1 k a0) else none
theorem parse2_mono (k : Nat) (kd : Int) (z : Nat) (neg : Bool) (wl pl : List UInt8) : LeO (parse2 k kd z neg wl pl) (parse2 (k + 1) kd z neg wl pl) := by
  unfold parse2
  split
  · exact LeO.refl _
  · split
    · exact LeO.refl _
    · exact LeO.bind (unit_Check.mono _ _ _) fun e => LeO.refl _
theorem unit_Parse.mono : ∀ a0 k, LeO (unit_Parse.f k a0) (unit_Parse.f (k + 1) a0) := by
  intro a0 k r h
  unfold unit_Parse.f at h ⊢
  split at h
  · rename_i c
    rw [if_pos ⟨by omega, c.2⟩]
    split at h
    · rename_i d
      rw [if_pos d]
      exact h
    · rename_i d
      rw [if_neg d]
      unfold parse1 at h ⊢
      revert h
      cases unitAt (cut1 32 a0.data.toList).2.1 with
      | none => exact fun h => h
      | some p =>
        cases numT (cut1 32 a0.data.toList).1 with
        | none => exact fun h => h
        | some q => exact fun h => parse2_mono _ _ _ _ _ _ _ h
  · cases h
theorem num_all {s : List UInt8} {neg : Bool} {wl pl : List UInt8} (h : numT s = some (neg, wl, pl)) : (wl ++ pl).all isDig = true ∧ wl.length + pl.length ≤ 20 := by
  unfold numT at h
  split at h
  · rename_i ok
    have h1 := ((numOk_iff _).1 ok).1
    simp only [Option.some.injEq, Prod.mk.injEq] at h
    obtain ⟨rfl, rfl, rfl⟩ := h
    exact ⟨h1, ok.2.2.2.2⟩
  · cases h
theorem unit_Parse.calls (k : Nat) (a0 : ByteArray) (r1 r2 r3 : Int) (w : World) (hG : GI w) (h : unit_Parse.f k a0 = some (r1, r2, r3)) :
    Calls Tryz.prog 7 #[.string a0] w fun e w' => e = .returned (.tuple #[.agg #[.int .i64 r1, .int .i64 r2], .int .i64 r3]) ∧ Below w.heap.size w w' := by
  unfold unit_Parse.f at h
  split at h
  · rename_i hk
    by_cases hbig : (a0.size : Int) > 64
    · rw [if_pos hbig] at h
      simp only [Option.some.injEq, Prod.mk.injEq] at h
      obtain ⟨rfl, rfl, rfl⟩ := h
      exact unit_Parse.c1 k a0 w hG hbig
    · rw [if_neg hbig] at h
      have hct := cut_f a0 32 hk.2
      have hlen := cut_len 32 a0.data.toList
      have hl0 := size_list a0
      obtain ⟨nm, hnm⟩ : ∃ nm : ByteArray, nm = ⟨(cut1 32 a0.data.toList).2.1.toArray⟩ := ⟨_, rfl⟩
      obtain ⟨hd, hhd⟩ : ∃ hd : ByteArray, hd = ⟨(cut1 32 a0.data.toList).1.toArray⟩ := ⟨_, rfl⟩
      have nml : (cut1 32 a0.data.toList).2.1 = nm.data.toList := by rw [hnm]
      have hdl : (cut1 32 a0.data.toList).1 = hd.data.toList := by rw [hhd]
      rw [← hnm, ← hhd] at hct
      have hn : nm.size ≤ 1000 := by rw [size_list, ← nml]; omega
      have hd1 : hd.size ≤ 1000 := by rw [size_list, ← hdl]; omega
      unfold parse1 at h
      rw [nml, hdl] at h
      cases hu : unitAt nm.data.toList with
      | none =>
        rw [hu] at h
        simp only [Option.some.injEq, Prod.mk.injEq] at h
        obtain ⟨rfl, rfl, rfl⟩ := h
        cases hq : numT hd.data.toList with
        | none =>
          obtain ⟨al, pn, mi, hnum⟩ := number_no hd1 hq
          exact unit_Parse.c2 k a0 w hG hbig hd nm _ hct hn al pn mi false hnum hu
        | some q =>
          obtain ⟨neg, wl, pl⟩ := q
          exact unit_Parse.c2 k a0 w hG hbig hd nm _ hct hn _ _ _ _ (number_yes hd1 hq) hu
      | some p =>
        obtain ⟨kd, z⟩ := p
        have hsm := unit_small hu
        obtain ⟨zn, rfl⟩ : ∃ zn : Nat, z = (zn : Int) := ⟨z.toNat, by have := hsm.2.1; have : 0 ≤ z := this; omega⟩
        have hz8 : zn ≤ 8 := by have : (zn : Int) ≤ 8 := hsm.2.2; omega
        rw [hu] at h
        cases hq : numT hd.data.toList with
        | none =>
          rw [hq] at h
          have h : some ((0 : Int), (0 : Int), (3 : Int)) = some (r1, r2, r3) := h
          simp only [Option.some.injEq, Prod.mk.injEq] at h
          obtain ⟨rfl, rfl, rfl⟩ := h
          obtain ⟨al, pn, mi, hnum⟩ := number_no hd1 hq
          exact unit_Parse.c3 k a0 w hG hbig hd nm _ hct hn al pn mi false hnum kd zn hu rfl
        | some q =>
          obtain ⟨neg, wl, pl⟩ := q
          rw [hq] at h
          have h : parse2 k kd zn neg wl pl = some (r1, r2, r3) := h
          have hnum := number_yes hd1 hq
          obtain ⟨hdig, hl20⟩ := num_all hq
          unfold parse2 at h
          by_cases hpz : zn < pl.length
          · rw [if_pos hpz] at h
            simp only [Option.some.injEq, Prod.mk.injEq] at h
            obtain ⟨rfl, rfl, rfl⟩ := h
            exact unit_Parse.c4 k a0 w hG hbig hd nm _ hct hn _ _ _ _ hnum kd zn hu rfl (by omega)
          · rw [if_neg hpz] at h
            obtain ⟨RZ, hRZ⟩ : ∃ RZ : ByteArray, RZ = ⟨(List.replicate (zn - pl.length) (48 : UInt8)).toArray⟩ := ⟨_, rfl⟩
            have lRZ : RZ.data.toList = List.replicate (zn - pl.length) 48 := by rw [hRZ]
            obtain ⟨al, hal⟩ : ∃ al : ByteArray, al = ⟨(wl ++ pl).toArray⟩ := ⟨_, rfl⟩
            have lal : al.data.toList = wl ++ pl := by rw [hal]
            rw [← hal] at hnum
            have sal : al.size ≤ 20 := by rw [size_list, lal, List.length_append]; exact hl20
            have sRZ : RZ.size ≤ 8 := by rw [size_list, lRZ, List.length_replicate]; omega
            obtain ⟨SS, hSS⟩ : ∃ SS, al ++ RZ = SS := ⟨_, rfl⟩
            have lSS : SS.data.toList = wl ++ (pl ++ List.replicate (zn - pl.length) 48) := by rw [← hSS, app_list, lal, lRZ, List.append_assoc]
            have sSS : SS.size ≤ 28 := by rw [← hSS, ByteArray.size_append]; omega
            have dSS : SS.data.toList.all isDig = true := by
              rw [← hSS, app_list, lal, lRZ, List.all_append, hdig, Bool.true_and, List.all_replicate]
              split
              · rfl
              · decide
            obtain ⟨TL, hTLe⟩ : ∃ TL : ByteArray, TL = ⟨(trimLeftS SS.data.toList [48]).toArray⟩ := ⟨_, rfl⟩
            have lTL : TL.data.toList = trimLeftS SS.data.toList [48] := by rw [hTLe]
            have hTL : strings_TrimLeft.f SS ⟨#[48]⟩ = some TL := by
              unfold strings_TrimLeft.f
              rw [if_pos ⟨by omega, by decide, by decide⟩, hTLe]
            have hcnt : wrap64 ((zn : Int) - (pl.length : Int)) = ((zn - pl.length : Nat) : Int) := by rw [w64 (by omega) (by omega)]; omega
            rw [← lSS, ← lTL, ← size_list] at h
            by_cases hlen18 : 18 < TL.size
            · rw [if_pos hlen18] at h
              simp only [Option.some.injEq, Prod.mk.injEq] at h
              obtain ⟨rfl, rfl, rfl⟩ := h
              exact unit_Parse.c5 k a0 w hG hbig hd nm _ hct hn _ _ _ _ hnum kd zn hu rfl (by omega) RZ SS TL (zn - pl.length) (by omega) hcnt lRZ (by omega) hSS hTL (by omega)
            · rw [if_neg hlen18] at h
              have dTL : TL.data.toList.all isDig = true := by rw [lTL]; exact trimL_all _ dSS
              have hval : valFrom 0 TL.data.toList = valT zn wl pl := by rw [lTL, trimL_val, lSS]; rfl
              obtain ⟨AT, hAT⟩ : ∃ AT : ByteArray, (⟨#[48]⟩ : ByteArray) ++ TL = AT := ⟨_, rfl⟩
              have lAT : AT.data.toList = 48 :: TL.data.toList := by rw [← hAT, app_list]; rfl
              have hlt : valFrom 0 TL.data.toList < 10 ^ 18 := by
                have h1 := valFrom_lt TL.data.toList 0 dTL
                have h2 : 10 ^ TL.data.toList.length ≤ 10 ^ 18 := Nat.pow_le_pow_right (by omega) (by rw [← size_list]; omega)
                omega
              have hat : strconv_Atoi.f AT = some (((valT zn wl pl : Nat) : Int), none) := by
                unfold strconv_Atoi.f
                rw [if_pos (by rw [← hAT, ByteArray.size_append]; show 1 + TL.size ≤ _; omega), lAT, atoi_zero dTL (by rw [← size_list]; omega), hval]
              obtain ⟨e0, hc, h⟩ := Option.bind_eq_some_iff.mp h
              have b0 : 0 ≤ ((valT zn wl pl : Nat) : Int) := by omega
              have b1 : ((valT zn wl pl : Nat) : Int) ≤ 1000000000000000000 := by rw [← hval]; omega
              by_cases c0 : e0 = 0
              · rw [if_pos c0] at h
                simp only [Option.some.injEq, Prod.mk.injEq] at h
                obtain ⟨rfl, rfl, rfl⟩ := h
                cases neg with
                | true => exact unit_Parse.d11 k a0 w hG hbig hd nm _ hct hn _ _ _ _ hnum kd zn hu rfl rfl (by omega) RZ SS TL (zn - pl.length) (by omega) hcnt lRZ (by omega) hSS hTL (by omega) AT _ hAT b0 b1 hat e0 hc c0
                | false => exact unit_Parse.d01 k a0 w hG hbig hd nm _ hct hn _ _ _ _ hnum kd zn hu rfl rfl (by omega) RZ SS TL (zn - pl.length) (by omega) hcnt lRZ (by omega) hSS hTL (by omega) AT _ hAT b0 b1 hat e0 hc c0
              · rw [if_neg c0] at h
                simp only [Option.some.injEq, Prod.mk.injEq] at h
                obtain ⟨rfl, rfl, rfl⟩ := h
                cases neg with
                | true => exact unit_Parse.d10 k a0 w hG hbig hd nm _ hct hn _ _ _ _ hnum kd zn hu rfl rfl (by omega) RZ SS TL (zn - pl.length) (by omega) hcnt lRZ (by omega) hSS hTL (by omega) AT _ hAT b0 b1 hat e0 hc c0
                | false => exact unit_Parse.d00 k a0 w hG hbig hd nm _ hct hn _ _ _ _ hnum kd zn hu rfl rfl (by omega) RZ SS TL (zn - pl.length) (by omega) hcnt lRZ (by omega) hSS hTL (by omega) AT _ hAT b0 b1 hat e0 hc c0
  · cases h
end Go.Proofs.YtmjglehdckgcnaaGreatDoor.Pr
