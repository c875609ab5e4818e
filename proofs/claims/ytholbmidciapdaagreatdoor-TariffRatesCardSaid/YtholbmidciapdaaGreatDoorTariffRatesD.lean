/-
A part of what these laws rest on: contracts of the functions that they reach, and plain lemmas.
-/
import Derived.Shelf.Strings.Builder1
import Derived.Shelf.Strings.Trim
import Derived.Shelf.Small.Utf8
import Derived.Shelf.Small.Strs
import Derived.Shelf.Strings.BuilderF
import Derived.Shelf.Strings.BuilderK
import Derived.Shelf.Strconv.Atoi
import Derived.Shelf.Strconv.Itoa0
import Derived.Shelf.Strconv.Itoa1
import Derived.Shelf.LaysM
import Derived.Shelf.Strconv.Itoa2
import Derived.Shelf.Strconv.Itoa3
import Derived.Shelf.Strconv.AtoiErrFast
import Derived.Shelf.Strconv.ParseIntEmpty
import Derived.Shelf.Strconv.AtoiFail
import Derived.Shelf.Strconv.Clone
import Derived.Shelf.Strconv.SyntaxError
import Derived.Shelf.LaysC
import Derived.Shelf.Strconv.ToError
import Derived.Shelf.Strconv.Lower
import Derived.Shelf.Strconv.ParseUint10
import Derived.Shelf.Strconv.ParseUint10Empty
import Derived.Shelf.Strconv.ParseUint10Any
import Derived.Shelf.Strconv.ParseInt10
import Derived.Shelf.Strconv.AtoiLong
import Derived.Shelf.Strconv.AtoiInnerAll
import Derived.Shelf.Strconv.RangeError
import Derived.Shelf.Strconv.ToErrorRange
import Derived.Shelf.Strconv.AtoiAll
import Derived.Shelf.Strconv.ErrVarAll
import Derived.Shelf.Strings.Search1
import Derived.Shelf.Strings.Search2
import Derived.Shelf.Strings.Search3
import Derived.Shelf.Strings.Cut
import Derived.Shelf.Strings.Count
import Derived.Shelf.Strings.Shaped
import Derived.Shelf.Strings.Prefix
import Derived.Shelf.Strings.Split
import Derived.Shelf.Strings.SplitShaped
import Derived.Shelf.Strings.Runes
import Derived.Shelf.Strings.AsciiSet
import Derived.Shelf.Bits.Mul64
import Derived.Shelf.Unicode.DecodeSlow
import Derived.Lib.AtoiAll
import Derived.Lib.IndexMore
import Derived.Lib.Split
import Derived.Shelf.Strings.SlTrimAscii
import Derived.Test.YtholbmidciapdaaGreatDoorTariffRatesC
set_option linter.unusedVariables false
set_option linter.unusedSimpArgs false
namespace Go.Proofs.YtholbmidciapdaaGreatDoor.Pr
open Go.RowKit Go.Proofs.YtholbmidciapdaaGreatDoorW.PrintWords Go.Proofs.YtholbmidciapdaaGreatDoorW.PrintLast Go.Proofs.YtholbmidciapdaaGreatDoorW.PrintMore Go.Proofs.YtholbmidciapdaaGreatDoor.X
attribute [local go_sem] max2_int min2_int max_two min_two max_three min_three max_four min_four   -- for this text's walks alone
set_option linter.unusedVariables false
set_option linter.unusedSimpArgs false
def flat26 (l : List S26) : List Value := l.flatMap fun x => [Value.int .i64 x.f0, Value.int .i64 x.f1, Value.int .i64 x.f2]
theorem flat26_cons (x : S26) (r : List S26) : flat26 (x :: r) = .int .i64 x.f0 :: .int .i64 x.f1 :: .int .i64 x.f2 :: flat26 r := rfl
theorem flat26_append (a b : List S26) : flat26 (a ++ b) = flat26 a ++ flat26 b := by simp [flat26]
theorem flat26_len (l : List S26) : (flat26 l).length = l.length * 3 := by
 induction l with
 | nil => rfl
 | cons x r ih => rw [flat26_cons]; simp only [List.length_cons, ih]; omega
theorem flat26_get (ys : List S26) : ∀ (j : Nat) (p : S26), ys[j]? = some p → ((flat26 ys).drop (j * 3)).take 3 = [.int .i64 p.f0, .int .i64 p.f1, .int .i64 p.f2] := by
 induction ys with
 | nil => intro j p hp; simp at hp
 | cons y r ih =>
  intro j p hp
  cases j with
  | zero => obtain rfl := Option.some.inj hp; rfl
  | succ j =>
   have := ih j p (by simpa using hp)
   rw [show (j + 1) * 3 = j * 3 + 1 + 1 + 1 from by omega]
   exact this
theorem flat26_take (l : List S26) : ∀ i, (flat26 l).take (i * 3) = flat26 (l.take i) := by
 induction l with
 | nil => intro i; simp [flat26]
 | cons x r ih =>
  intro i
  cases i with
  | zero => simp [flat26]
  | succ i => rw [show (i + 1) * 3 = i * 3 + 1 + 1 + 1 from by omega, flat26_cons, List.take_succ_cons, List.take_succ_cons, List.take_succ_cons, ih i, List.take_succ_cons, flat26_cons]
theorem flat26_drop (l : List S26) : ∀ i, (flat26 l).drop (i * 3) = flat26 (l.drop i) := by
 induction l with
 | nil => intro i; simp [flat26]
 | cons x r ih =>
  intro i
  cases i with
  | zero => simp [flat26]
  | succ i => rw [show (i + 1) * 3 = i * 3 + 1 + 1 + 1 from by omega, flat26_cons, List.drop_succ_cons, List.drop_succ_cons, List.drop_succ_cons, ih i, List.drop_succ_cons]
theorem flat26_one (l : List S26) : ∀ v ∈ flat26 l, v.oneCell' = true := by
 intro v hv
 obtain ⟨x, _, h⟩ := List.mem_flatMap.1 hv
 simp only [List.mem_cons, List.not_mem_nil, or_false] at h
 rcases h with rfl | rfl | rfl <;> rfl
theorem flat26_of {l : List S26} : ∀ {inner : List Value}, inner.length = l.length * 3 → (∀ j p, l[j]? = some p → (inner.drop (j * 3)).take 3 = [.int .i64 p.f0, .int .i64 p.f1, .int .i64 p.f2]) → inner = flat26 l := by
 induction l with
 | nil => intro inner hl _; exact List.eq_nil_of_length_eq_zero (by simpa using hl)
 | cons x r ih =>
  intro inner hl h
  have h0 := h 0 x rfl
  rw [Nat.zero_mul, List.drop_zero] at h0
  have h1 : inner.drop 3 = flat26 r := ih (by rw [List.length_drop, hl, List.length_cons]; omega) (fun j p hp => by
   have := h (j + 1) p (by simpa using hp)
   rw [List.drop_drop, show 3 + j * 3 = (j + 1) * 3 by omega]
   exact this)
  rw [← List.take_append_drop 3 inner, h0, h1]
  rfl
theorem own_R26 {w : World} {base : Nat} {v : Value} {xs : List S26} (h : w.ownsRow base 26 3 v xs.length (flat26 xs)) : Kd.R k26 26 w base (fun _ => True) v xs :=
 ⟨fun _ _ => trivial, flat26 xs, h, flat26_len xs, fun j p hp => by
  have e := flat26_get xs j p hp
  show k26.M _ _ _ p (((flat26 xs).drop (j * 3)).take 3)
  rw [e]
  exact k26_mkM _ _ _ p⟩
theorem R26_own {w : World} {base : Nat} {ok : Nat → Prop} {v : Value} {xs : List S26} (h : Kd.R k26 26 w base ok v xs) : w.ownsRow base 26 3 v xs.length (flat26 xs) := by
 obtain ⟨_, inner, ho, hl, hr⟩ := h
 have e : inner = flat26 xs := flat26_of hl (fun j p hp => k26_openM (hr j p hp))
 rw [← e]
 exact ho
def slices_Insert26.f (l0 : List S26) (i : Int) (xs : List S26) : Option (List S26) := if 0 ≤ i ∧ i ≤ (l0.length : Int) ∧ xs.length = 1 ∧ l0.length < 1099511627776 then some (l0.take i.toNat ++ xs ++ l0.drop i.toNat) else none
theorem slices_Insert26.own {base : Nat} {A A1 : Option Addr} {c0 c1 : Nat} {l0 xs r : List S26} {i : Int} {w : World} {okA okB : Nat → Prop} (HO : Kd.R k26 26 w base okA (.slice A l0.length c0) l0) (HX : Kd.R k26 26 w base okB (.slice A1 xs.length c1) xs)
  (hne : ∀ k, okB k → some k ≠ (Value.slice A l0.length c0).ownBlock) (hbase : base ≤ w.heap.size) (h : slices_Insert26.f l0 i xs = some r) :
  Calls Tryz.prog 43 #[.slice A l0.length c0, .int .i64 i, .slice A1 xs.length c1] w fun e w' => ∃ v, e = .returned v ∧ Kd.R k26 26 w' base (fun _ => True) v r ∧ w.grownBy w' (Value.slice A l0.length c0).ownBlock := by
 unfold slices_Insert26.f at h
 by_cases hc : 0 ≤ i ∧ i ≤ (l0.length : Int) ∧ xs.length = 1 ∧ l0.length < 1099511627776
 case neg => rw [if_neg hc] at h; cases h
 rw [if_pos hc] at h
 obtain rfl := Option.some.inj h
 obtain ⟨h0, h1, h2, h3⟩ := hc
 obtain ⟨n, rfl⟩ : ∃ n : Nat, i = (n : Int) := ⟨i.toNat, by omega⟩
 have ho := R26_own HO
 have hx := R26_own HX
 have hok := HX.1
 rw [Int.toNat_natCast]
 rw [h2] at hx hok ⊢
 rcases hx.2 with ⟨_, hz⟩ | ⟨g, cap, cur, e, hg, hh, _, _, _, htake⟩
 ·
  cases hz
 simp only [Value.slice.injEq] at e
 obtain ⟨rfl, _, rfl⟩ := e
 have hb : (Value.slice A l0.length c0).ownBlock ≠ some g := fun e => hne g (hok g rfl) e.symm
 refine (X.insert_own base l0.length n g c1 cur _ (flat26 l0) (flat26 xs) w (by omega) ho (by omega) (by rw [flat26_len, h2]) hbase hb hh (by simpa using htake) (flat26_one xs) (flat26_one l0)).mono ?_
 rintro e w' ⟨v', rfl, ho', hgr⟩
 refine ⟨v', rfl, own_R26 ?_, hgr⟩
 rw [flat26_take, flat26_drop, ← flat26_append, ← flat26_append] at ho'
 have hl : (l0.take n ++ xs ++ l0.drop n).length = l0.length + 1 := by simp only [List.length_append, List.length_take, List.length_drop, h2]; omega
 rw [hl]
 exact ho'
def tariff_Insert.f (k : Nat) (a0_0 : Int) (l0_1 : List (S26)) (a1_0 : Int) (a1_1 : Int) (a1_2 : Int) : Option (Int × (List (S26)) × Int) := (tariff_right.f k a0_0 l0_1).bind fun t134 => (if t134 = true then ((tariff_ranged.f a1_0 a1_1 a1_2).bind fun t135 => (if t135 = true then ((slices_Clone26.f l0_1).bind fun t136 => ((api_Rate_42_at_37.f k t136 a1_0 a1_1 a1_2).bind fun bt140 => (if bt140.2 = true then (if 0 ≤ bt140.1 then (if bt140.1 < (t136.length : Int) then (some (a0_0, (t136.set (bt140.1 : Int).toNat (⟨a1_0, a1_1, a1_2⟩ : S26)), 0)) else (none)) else (none)) else ((slices_Insert26.f t136 bt140.1 (([(⟨a1_0, a1_1, a1_2⟩ : S26)] : List (S26)))).bind fun t146 => (if (t146.length : Int) > 64 then (some (0, ([] : List (S26)), 8)) else (some (a0_0, t146, 0))))))) else (some (0, ([] : List (S26)), 2)))) else (some (0, ([] : List (S26)), 1)))
def tariff_Insert.T5 : Bool × List (List Nat × List Nat) := (true, [([], []), ([0], [0]), ([], []), ([2], [2]), ([3], [3]), ([1, 4], [1, 4]), ([], []), ([6, 5, 4, 0, 1, 2, 3, 4, 5, 6], [5, 6])])
def tariff_Insert.B5 : List Nat := [0, 1, 0, 4, 12, 31, 0, 127]
theorem tariff_Insert.tab5 : rtab .any (opsOf Tryz.f16 5) = tariff_Insert.T5 := by kernel_rfl
theorem tariff_Insert.bits5 : waitsOk tariff_Insert.T5.2 tariff_Insert.B5 = true := by kernel_rfl
set_option maxHeartbeats 8000000 in
set_option maxRecDepth 100000 in
theorem tariff_Insert.calls (k : Nat) (a0_0 : Int) (A0_1 : Option Addr) (c0_1 : Nat) (l0_1 : List (S26)) (a1_0 : Int) (a1_1 : Int) (a1_2 : Int) (r1 : Int) (r2 : List (S26)) (r3 : Int) (w : World) (hr0_1 : Kd.C k26 w A0_1 l0_1.length l0_1) (hc0_1 : l0_1.length ≤ c0_1) (h : tariff_Insert.f k a0_0 l0_1 a1_0 a1_1 a1_2 = some (r1, r2, r3)) :
  Calls Tryz.prog 16 #[.agg #[.int .i64 a0_0, .slice A0_1 l0_1.length c0_1], .agg #[.int .i64 a1_0, .int .i64 a1_1, .int .i64 a1_2]] w fun e w' => ∃ v1_ : Value, e = .returned (.tuple #[.agg #[.int .i64 r1, v1_], .int .i64 r3]) ∧ Kd.R k26 26 w' w.heap.size (fun _ => True) v1_ r2 ∧ Below w.heap.size w w' := by
 have hu24 := Tryz.underlying24; have hu26 := Tryz.underlying26; have HR0_1 := Aside0.mk hr0_1; have HC0_1 := Aside0.mk hc0_1; clear hr0_1 hc0_1; have HB := Aside0.mk (Below.refl w.heap.size w); have H : ((tariff_right.f k a0_0 l0_1).bind fun t134 => (if t134 = true then ((tariff_ranged.f a1_0 a1_1 a1_2).bind fun t135 => (if t135 = true then ((slices_Clone26.f l0_1).bind fun t136 => ((api_Rate_42_at_37.f k t136 a1_0 a1_1 a1_2).bind fun bt140 => (if bt140.2 = true then (if 0 ≤ bt140.1 then (if bt140.1 < (t136.length : Int) then (some (a0_0, (t136.set (bt140.1 : Int).toNat (⟨a1_0, a1_1, a1_2⟩ : S26)), 0)) else (none)) else (none)) else ((slices_Insert26.f t136 bt140.1 (([(⟨a1_0, a1_1, a1_2⟩ : S26)] : List (S26)))).bind fun t146 => (if (t146.length : Int) > 64 then (some (0, ([] : List (S26)), 8)) else (some (a0_0, t146, 0))))))) else (some (0, ([] : List (S26)), 2)))) else (some (0, ([] : List (S26)), 1)))) = some (r1, r2, r3) := h; clear h; replace H := Option.bind_eq_some_iff.mp H; obtain ⟨t134, A30, H⟩ := H; replace H : (if t134 = true then ((tariff_ranged.f a1_0 a1_1 a1_2).bind fun t135 => (if t135 = true then ((slices_Clone26.f l0_1).bind fun t136 => ((api_Rate_42_at_37.f k t136 a1_0 a1_1 a1_2).bind fun bt140 => (if bt140.2 = true then (if 0 ≤ bt140.1 then (if bt140.1 < (t136.length : Int) then (some (a0_0, (t136.set (bt140.1 : Int).toNat (⟨a1_0, a1_1, a1_2⟩ : S26)), 0)) else (none)) else (none)) else ((slices_Insert26.f t136 bt140.1 (([(⟨a1_0, a1_1, a1_2⟩ : S26)] : List (S26)))).bind fun t146 => (if (t146.length : Int) > 64 then (some (0, ([] : List (S26)), 8)) else (some (a0_0, t146, 0))))))) else (some (0, ([] : List (S26)), 2)))) else (some (0, ([] : List (S26)), 1))) = some (r1, r2, r3) := H; have A3 := Aside0.mk A30; clear A30; by_cases c4 : t134 = true
 ·
  subst c4; replace H : ((tariff_ranged.f a1_0 a1_1 a1_2).bind fun t135 => (if t135 = true then ((slices_Clone26.f l0_1).bind fun t136 => ((api_Rate_42_at_37.f k t136 a1_0 a1_1 a1_2).bind fun bt140 => (if bt140.2 = true then (if 0 ≤ bt140.1 then (if bt140.1 < (t136.length : Int) then (some (a0_0, (t136.set (bt140.1 : Int).toNat (⟨a1_0, a1_1, a1_2⟩ : S26)), 0)) else (none)) else (none)) else ((slices_Insert26.f t136 bt140.1 (([(⟨a1_0, a1_1, a1_2⟩ : S26)] : List (S26)))).bind fun t146 => (if (t146.length : Int) > 64 then (some (0, ([] : List (S26)), 8)) else (some (a0_0, t146, 0))))))) else (some (0, ([] : List (S26)), 2)))) = some (r1, r2, r3) := by rw [if_pos rfl] at H; exact H
  replace H := Option.bind_eq_some_iff.mp H; obtain ⟨t135, A50, H⟩ := H; replace H : (if t135 = true then ((slices_Clone26.f l0_1).bind fun t136 => ((api_Rate_42_at_37.f k t136 a1_0 a1_1 a1_2).bind fun bt140 => (if bt140.2 = true then (if 0 ≤ bt140.1 then (if bt140.1 < (t136.length : Int) then (some (a0_0, (t136.set (bt140.1 : Int).toNat (⟨a1_0, a1_1, a1_2⟩ : S26)), 0)) else (none)) else (none)) else ((slices_Insert26.f t136 bt140.1 (([(⟨a1_0, a1_1, a1_2⟩ : S26)] : List (S26)))).bind fun t146 => (if (t146.length : Int) > 64 then (some (0, ([] : List (S26)), 8)) else (some (a0_0, t146, 0))))))) else (some (0, ([] : List (S26)), 2))) = some (r1, r2, r3) := H; have A5 := Aside0.mk A50; clear A50; by_cases c6 : t135 = true
  ·
   subst c6; replace H : ((slices_Clone26.f l0_1).bind fun t136 => ((api_Rate_42_at_37.f k t136 a1_0 a1_1 a1_2).bind fun bt140 => (if bt140.2 = true then (if 0 ≤ bt140.1 then (if bt140.1 < (t136.length : Int) then (some (a0_0, (t136.set (bt140.1 : Int).toNat (⟨a1_0, a1_1, a1_2⟩ : S26)), 0)) else (none)) else (none)) else ((slices_Insert26.f t136 bt140.1 (([(⟨a1_0, a1_1, a1_2⟩ : S26)] : List (S26)))).bind fun t146 => (if (t146.length : Int) > 64 then (some (0, ([] : List (S26)), 8)) else (some (a0_0, t146, 0))))))) = some (r1, r2, r3) := by rw [if_pos rfl] at H; exact H
   replace H := Option.bind_eq_some_iff.mp H; obtain ⟨t136, A70, H⟩ := H; replace H : ((api_Rate_42_at_37.f k t136 a1_0 a1_1 a1_2).bind fun bt140 => (if bt140.2 = true then (if 0 ≤ bt140.1 then (if bt140.1 < (t136.length : Int) then (some (a0_0, (t136.set (bt140.1 : Int).toNat (⟨a1_0, a1_1, a1_2⟩ : S26)), 0)) else (none)) else (none)) else ((slices_Insert26.f t136 bt140.1 (([(⟨a1_0, a1_1, a1_2⟩ : S26)] : List (S26)))).bind fun t146 => (if (t146.length : Int) > 64 then (some (0, ([] : List (S26)), 8)) else (some (a0_0, t146, 0)))))) = some (r1, r2, r3) := H; have A7 := Aside0.mk A70; clear A70; replace H := Option.bind_eq_some_iff.mp H; obtain ⟨⟨t140, t141⟩, A80, H⟩ := H; replace H : (if t141 = true then (if 0 ≤ t140 then (if t140 < (t136.length : Int) then (some (a0_0, (t136.set (t140 : Int).toNat (⟨a1_0, a1_1, a1_2⟩ : S26)), 0)) else (none)) else (none)) else ((slices_Insert26.f t136 t140 (([(⟨a1_0, a1_1, a1_2⟩ : S26)] : List (S26)))).bind fun t146 => (if (t146.length : Int) > 64 then (some (0, ([] : List (S26)), 8)) else (some (a0_0, t146, 0))))) = some (r1, r2, r3) := H; have A8 := Aside0.mk A80; clear A80; by_cases c9 : t141 = true
   ·
    subst c9; replace H : (if 0 ≤ t140 then (if t140 < (t136.length : Int) then (some (a0_0, (t136.set (t140 : Int).toNat (⟨a1_0, a1_1, a1_2⟩ : S26)), 0)) else (none)) else (none)) = some (r1, r2, r3) := by rw [if_pos rfl] at H; exact H
    by_cases c10 : 0 ≤ t140
    ·
     rw [if_pos c10] at H; have c10b0 : decide (0 ≤ t140) = true := decide_eq_true c10; clear c10; by_cases c11 : t140 < (t136.length : Int)
     ·
      rw [if_pos c11] at H; have c11b0 : decide (t140 < (t136.length : Int)) = true := decide_eq_true c11; clear c11; obtain ⟨y142, hy142⟩ : ∃ y_ : List (S26), y_ = (t136.set (t140 : Int).toNat (⟨a1_0, a1_1, a1_2⟩ : S26)) := ⟨_, rfl⟩; replace H : (some (a0_0, y142, 0)) = some (r1, r2, r3) := by first | (rw [hy142]; with_reducible exact H) | (have H2_ := (Option.bind_some _ _).symm.trans H; rw [hy142]; with_reducible exact H2_) | (have H2_ := (Option.bind_some _ _).symm.trans H; with_reducible exact H2_) | with_reducible exact H | (rw [hy142]; exact H) | exact H
      have Ny142 := Aside0.mk hy142; clear hy142; simp only [Option.some.injEq, Prod.mk.injEq] at H; obtain ⟨rfl, rfl, rfl⟩ := H; go_enter Tryz.func16, Tryz.ntmps16
      try go_wp2_with (first | ((with_reducible refine gate_dst (N := 2) rfl ?_); refine box_event ?hg (N := 2) ?hd (cs := #[.int .i64 a0_0, .slice A0_1 l0_1.length c0_1]) (t := 24) ?hr ?_; (case hd => rfl); (case hg => rfl); (case hr => first | (go_simp; done) | (go_simp; rfl)); intro gb131 hg w13 hbox hb; have n0_ := Aside0.mk (below_step (eG HB.out) hb); have n1_ := Aside0.mk (hbox); have n2_ := Aside0.mk ((by rw [hg]; exact (below_size (eG HB.out)) : w.heap.size ≤ gb131)); have n3_ := Aside0.mk ((by rw [hg]; exact (below_size (eG HB.out)) : w.heap.size ≤ gb131)); clear HB; have HB := n0_; have BK131 := n1_; have GW131 := n2_; have GE131 := n3_; have ig131_ := geI GE131; clear n0_ n1_ n2_ n3_; clear hb hbox hg) | ((with_reducible refine gate_dst (N := 3) rfl ?_); refine box_event ?hg (N := 3) ?hd (cs := #[.int .i64 a1_0, .int .i64 a1_1, .int .i64 a1_2]) (t := 26) ?hr ?_; (case hd => rfl); (case hg => rfl); (case hr => first | (go_simp; done) | (go_simp; rfl)); intro gb132 hg w14 hbox hb; have n0_ := Aside0.mk (blk_below (bG BK131.out) hb); have n1_ := Aside0.mk (below_step (eG HB.out) hb); have n2_ := Aside0.mk (hbox); have n3_ := Aside0.mk ((by rw [hg]; exact (below_size (eG HB.out)) : w.heap.size ≤ gb132)); have n4_ := Aside0.mk ((by rw [hg]; exact (below_size (eG HB.out)) : w.heap.size ≤ gb132)); have n5_ := Aside0.mk ((by rw [hg]; exact Nat.ne_of_lt (blk_lt (bG BK131.out)) : gb131 ≠ gb132)); have n6_ := Aside0.mk ((by rw [hg]; exact Nat.ne_of_gt (blk_lt (bG BK131.out)) : gb132 ≠ gb131)); clear BK131; clear HB; have BK131 := n0_; have HB := n1_; have BK132 := n2_; have GW132 := n3_; have GE132 := n4_; have ig132_ := geI GE132; have NB131_132 := n5_; have NB132_131 := n6_; clear n0_ n1_ n2_ n3_ n4_ n5_ n6_; clear hb hbox hg) | ((with_reducible refine gate_dst (N := 4) rfl ?_); refine box_event ?hg (N := 4) ?hd (cs := #[.int .i64 0, .slice none 0 0]) (t := 24) ?hr ?_; (case hd => rfl); (case hg => rfl); (case hr => first | (go_simp; done) | (go_simp; rfl)); intro gb133 hg w15 hbox hb; have n0_ := Aside0.mk (blk_below (bG BK131.out) hb); have n1_ := Aside0.mk (blk_below (bG BK132.out) hb); have n2_ := Aside0.mk (below_step (eG HB.out) hb); have n3_ := Aside0.mk (hbox); have n4_ := Aside0.mk ((by rw [hg]; exact (below_size (eG HB.out)) : w.heap.size ≤ gb133)); have n5_ := Aside0.mk ((by rw [hg]; exact (below_size (eG HB.out)) : w.heap.size ≤ gb133)); have n6_ := Aside0.mk ((by rw [hg]; exact Nat.ne_of_lt (blk_lt (bG BK131.out)) : gb131 ≠ gb133)); have n7_ := Aside0.mk ((by rw [hg]; exact Nat.ne_of_gt (blk_lt (bG BK131.out)) : gb133 ≠ gb131)); have n8_ := Aside0.mk ((by rw [hg]; exact Nat.ne_of_lt (blk_lt (bG BK132.out)) : gb132 ≠ gb133)); have n9_ := Aside0.mk ((by rw [hg]; exact Nat.ne_of_gt (blk_lt (bG BK132.out)) : gb133 ≠ gb132)); clear BK131; clear BK132; clear HB; have BK131 := n0_; have BK132 := n1_; have HB := n2_; have BK133 := n3_; have GW133 := n4_; have GE133 := n5_; have ig133_ := geI GE133; have NB131_133 := n6_; have NB133_131 := n7_; have NB132_133 := n8_; have NB133_132 := n9_; clear n0_ n1_ n2_ n3_ n4_ n5_ n6_ n7_ n8_ n9_; clear hb hbox hg; have hnb16 := NB131_132.out; have hnc16 := NB132_131.out; have hnb17 := NB131_133.out; have hnc17 := NB133_131.out; have hcz18_0 : w15.cell? ⟨gb131, 0, none⟩ = some (.int .i64 a0_0) := (blk_cell BK131.out 0).trans rfl; have hcz18_1 : w15.cell? ⟨gb131, 1, none⟩ = some (.slice A0_1 l0_1.length c0_1) := (blk_cell BK131.out 1).trans rfl; have hfz18_0 := blk_frozen BK131.out 0; have hfz18_1 := blk_frozen BK131.out 1) | ((with_reducible refine gate_callee (f := 41) rfl ?_); refine goesL_ (some 11) rfl rfl Tryz.func41 (by kernel_rfl) rfl #[.agg #[.int .i64 a0_0, .slice A0_1 l0_1.length c0_1]] rfl (by (try simp only [List.map_toArray, List.map_cons, List.map_nil]); first | done | rfl | (simp only [List.length_drop, List.length_take]; rfl)) ?_; (with_reducible refine (tariff_right.calls k a0_0 _ _ l0_1 true _ ?side1 ?side2 A3.out).mono ?_); (case side1 => repeat (first | exact (Kd.C_below HR0_1.out HB.out) | (with_reducible refine Kd.C_alloc ?_ _) | (with_reducible refine Kd.C_drewN ?_ _) | (with_reducible refine Kd.C_drew ?_))); (case side2 => exact HC0_1.out); rintro e w19 ⟨rfl, hb⟩; refine ⟨_, rfl, ?_⟩; have n0_ := Aside0.mk (blk_below (bG BK131.out) hb); have n1_ := Aside0.mk (blk_below (bG BK132.out) hb); have n2_ := Aside0.mk (blk_below (bG BK133.out) hb); have n3_ := Aside0.mk (below_step (eG HB.out) hb); clear BK131; clear BK132; clear BK133; clear HB; have BK131 := n0_; have BK132 := n1_; have BK133 := n2_; have HB := n3_; clear n0_ n1_ n2_ n3_; (try clear hb); (try clear hb2); (try clear hk); (try clear hi); have hnb20 := NB132_133.out; have hnc20 := NB133_132.out; have hcz21_0 : w19.cell? ⟨gb132, 0, none⟩ = some (.int .i64 a1_0) := (blk_cell BK132.out 0).trans rfl; have hcz21_1 : w19.cell? ⟨gb132, 1, none⟩ = some (.int .i64 a1_1) := (blk_cell BK132.out 1).trans rfl; have hcz21_2 : w19.cell? ⟨gb132, 2, none⟩ = some (.int .i64 a1_2) := (blk_cell BK132.out 2).trans rfl; have hfz21_0 := blk_frozen BK132.out 0; have hfz21_1 := blk_frozen BK132.out 1; have hfz21_2 := blk_frozen BK132.out 2) | ((with_reducible refine gate_callee (f := 36) rfl ?_); refine goesL_ (some 16) rfl rfl Tryz.func36 (by kernel_rfl) rfl #[.agg #[.int .i64 a1_0, .int .i64 a1_1, .int .i64 a1_2]] rfl (by (try simp only [List.map_toArray, List.map_cons, List.map_nil]); first | done | rfl | (simp only [List.length_drop, List.length_take]; rfl)) ?_; (with_reducible refine (tariff_ranged.calls a1_0 a1_1 a1_2 true _ A5.out).mono ?_); rintro e w22 ⟨rfl, hb⟩; refine ⟨_, rfl, ?_⟩; have n0_ := Aside0.mk (blk_below (bG BK131.out) hb); have n1_ := Aside0.mk (blk_below (bG BK132.out) hb); have n2_ := Aside0.mk (blk_below (bG BK133.out) hb); have n3_ := Aside0.mk (below_step (eG HB.out) hb); clear BK131; clear BK132; clear BK133; clear HB; have BK131 := n0_; have BK132 := n1_; have BK133 := n2_; have HB := n3_; clear n0_ n1_ n2_ n3_; (try clear hb); (try clear hb2); (try clear hk); (try clear hi)))
      have n0_ := Aside0.mk (blk_drew BK131.out); have n1_ := Aside0.mk (blk_drew BK132.out); have n2_ := Aside0.mk (blk_drew BK133.out); have n3_ := Aside0.mk (below_drew1 HB.out); clear BK131; clear BK132; clear BK133; clear HB; have BK131 := n0_; have BK132 := n1_; have BK133 := n2_; have HB := n3_; clear n0_ n1_ n2_ n3_; refine start_ (n := 8) (S := fun w' => w'.cell? ⟨gb131, 0, none⟩ = some (.int .i64 a0_0) ∧ w'.cell? ⟨gb131, 1, none⟩ = some (.slice A0_1 l0_1.length c0_1)) (ds := []) #[false, false, false, false, false, false, false, false] (by kernel_rfl) rfl rfl ⟨(blk_cell BK131.out 0).trans rfl, (blk_cell BK131.out 1).trans rfl⟩ (fun hHeld => ?_); refine with_tabW tariff_Insert.tab5 tariff_Insert.bits5 (fun HT_ HW_ => ?_)
      generalize w22.drew = w23 at BK131 BK132 BK133 HB hHeld ⊢; refine pure_ (i := 0) (N := some 19) (v := ?_) (a' := ?_) #[true, false, false, false, false, false, false, false] rfl rfl (any_of HT_.out (by kernel_rfl)) (fun _ _ _ h => h) (Or.inl ⟨by rfl, ?_⟩) ?_ ?_; rotate_left
      · intro w'; go_simp; with_reducible rfl
      rotate_left
      · simp only [Act.put, sIA, sC0, sCS, i64_w, i32_w]; rfl
      refine pure_ (i := 2) (N := some 21) (v := ?_) (a' := ?_) #[true, false, true, false, false, false, false, false] rfl rfl (any_of HT_.out (by kernel_rfl)) (fun _ _ _ h => h) (Or.inl ⟨by rfl, ?_⟩) ?_ ?_; rotate_left
      · intro w'; go_simp; with_reducible rfl
      rotate_left
      · simp only [Act.put, sIA, sC0, sCS, i64_w, i32_w]; rfl
      refine take_ (i := 1) (N := some 20) (v := ?_) (a' := ?_) #[true, true, true, false, false, false, false, false] rfl rfl (take_ofW HT_.out HW_.out (by kernel_rfl)) (fun _ _ _ h => h) (Or.inl ⟨by rfl, ?_⟩) hHeld ?_ ?_; rotate_left
      · rintro w' ⟨s0, s1⟩; go_simp; with_reducible rfl
      rotate_left
      · simp only [Act.put, sIA, sC0, sCS, i64_w, i32_w]; rfl
      refine take_ (i := 3) (N := some 22) (v := ?_) (a' := ?_) #[true, true, true, true, false, false, false, false] rfl rfl (take_ofW HT_.out HW_.out (by kernel_rfl)) (fun _ _ _ h => h) (Or.inl ⟨by rfl, ?_⟩) hHeld ?_ ?_; rotate_left
      · rintro w' ⟨s0, s1⟩; go_simp; with_reducible rfl
      rotate_left
      · simp only [Act.put, sIA, sC0, sCS, i64_w, i32_w]; rfl
      refine join_ (σ := Value × Nat) 1 #[true, true, true, true, true, true, true, false] (fun s_ => [(23, s_.1), (6, .pointer (some ⟨s_.2, 0, none⟩)), (24, .agg #[.int .i64 a0_0, s_.1])]) (fun s_ w' => (w'.cell? ⟨gb131, 0, none⟩ = some (.int .i64 a0_0) ∧ w'.cell? ⟨gb131, 1, none⟩ = some (.slice A0_1 l0_1.length c0_1)) ∧ (Kd.R k26 26 w' w.heap.size (fun k_ => k_ ≠ gb132) s_.1 t136) ∧ (w'.heap[gb131]? = some (.cells #[.int .i64 a0_0, .slice A0_1 l0_1.length c0_1] 24 (0, 0))) ∧ (w'.heap[gb132]? = some (.cells #[.int .i64 a1_0, .int .i64 a1_1, .int .i64 a1_2] 26 (0, 0))) ∧ (w'.heap[gb133]? = some (.cells #[.int .i64 0, .slice none 0 0] 24 (0, 0))) ∧ (w'.heap[s_.2]? = some (.cells #[.int .i64 0, .slice none 0 0] 24 (0, 0))) ∧ (w.heap.size ≤ s_.2) ∧ (w.heap.size ≤ s_.2) ∧ (gb131 ≠ s_.2) ∧ (s_.2 ≠ gb131) ∧ (gb132 ≠ s_.2) ∧ (s_.2 ≠ gb132) ∧ (gb133 ≠ s_.2) ∧ (s_.2 ≠ gb133) ∧ (Below w.heap.size w w')) ?_ ?_; rotate_left
      ·
       intro hCont; refine two_ (i := 4) (j := 6) (Ni := some 23) (Nj := some 6) #[true, true, true, true, true, false, false, false] #[true, true, true, true, false, false, true, false] rfl rfl rfl rfl (two_of HT_.out (by kernel_rfl)) (by decide) (by decide) (fun K hK => ?_) (fun K hK => ?_)
       ·
        skip
        refine goes_ Tryz.func38 (by kernel_rfl) rfl #[.slice A0_1 l0_1.length c0_1] (by rfl) rfl rfl (by (try simp only [List.map_toArray, List.map_cons, List.map_nil]); first | done | rfl | (simp only [List.length_drop, List.length_take]; rfl)) ?_; with_reducible refine (slices_Clone26.calls _ _ l0_1 t136 _ ?side1 ?side2 A7.out).mono ?_
        (case side1 => repeat (first | exact (Kd.C_below HR0_1.out HB.out) | (with_reducible refine Kd.C_alloc ?_ _) | (with_reducible refine Kd.C_drewN ?_ _) | (with_reducible refine Kd.C_drew ?_)))
        (case side2 => exact HC0_1.out)
        rintro e w24 ⟨v137, rfl, ho0, hb⟩; refine ⟨_, rfl, ?_⟩; have n0_ := Aside0.mk (Kd.R_lower (Kd.R_newB ho0 (bG BK132.out)) (below_size (eG HB.out))); have n1_ := Aside0.mk (blk_below (bG BK131.out) hb); have n2_ := Aside0.mk (blk_below (bG BK132.out) hb); have n3_ := Aside0.mk (blk_below (bG BK133.out) hb); have n4_ := Aside0.mk (below_step (eG HB.out) hb); clear BK131; clear BK132; clear BK133; clear HB; have HO138 := n0_; have BK131 := n1_; have BK132 := n2_; have BK133 := n3_; have HB := n4_; clear n0_ n1_ n2_ n3_ n4_; (try clear hb)
        (try clear hb2)
        (try clear hk)
        (try clear hi)
        (try clear ho0)
        obtain ⟨Ao25, co25, eo25⟩ := Kd.R_slice HO138.out; (first | subst eo25 | (injection eo25 with f1_ f2_ f3_; have f4_ := f1_.symm; have f5_ := f3_.symm; clear f1_ f2_ f3_; subst f4_; subst f5_))
        refine hK.out _ _ ⟨(blk_cell BK131.out 0).trans rfl, (blk_cell BK131.out 1).trans rfl⟩ (fun hHeld => ?_); clear hK K; refine norm_ (a' := ?_) ?_ ?_; rotate_left
        ·
         show Act.put _ (some 23) _ = _
         simp only [Act.put, sIA, sC0, sCS, i64_w, i32_w]; rfl
        refine pure_ (i := 5) (N := some 24) (v := ?_) (a' := ?_) #[true, true, true, true, true, true, false, false] rfl rfl (any_of HT_.out (by kernel_rfl)) (fun _ _ _ h => h) (Or.inl ⟨by rfl, ?_⟩) ?_ ?_; rotate_left
        · intro w'; go_simp; with_reducible rfl
        rotate_left
        · simp only [Act.put, sIA, sC0, sCS, i64_w, i32_w]; rfl
        refine one_ (i := 6) (N := some 6) #[true, true, true, true, true, true, true, false] rfl rfl (one_of HT_.out (by kernel_rfl)) (by decide) (fun K hK => ?_); refine box_step ?hg (N := 6) ?hd (cs := #[.int .i64 0, .slice none 0 0]) (t := 24) ?hr ?_; (case hd => rfl); (case hg => rfl); (case hr => first | (go_simp; done) | (go_simp; rfl))
        intro gb139 hg w26 hbox hb; have n0_ := Aside0.mk (Kd.R_below (rG HO138.out) hb); have n1_ := Aside0.mk (blk_below (bG BK131.out) hb); have n2_ := Aside0.mk (blk_below (bG BK132.out) hb); have n3_ := Aside0.mk (blk_below (bG BK133.out) hb); have n4_ := Aside0.mk (below_step (eG HB.out) hb); have n5_ := Aside0.mk (hbox); have n6_ := Aside0.mk ((by rw [hg]; exact (below_size (eG HB.out)) : w.heap.size ≤ gb139)); have n7_ := Aside0.mk ((by rw [hg]; exact (below_size (eG HB.out)) : w.heap.size ≤ gb139)); have n8_ := Aside0.mk ((by rw [hg]; exact Nat.ne_of_lt (blk_lt (bG BK131.out)) : gb131 ≠ gb139)); have n9_ := Aside0.mk ((by rw [hg]; exact Nat.ne_of_gt (blk_lt (bG BK131.out)) : gb139 ≠ gb131)); have n10_ := Aside0.mk ((by rw [hg]; exact Nat.ne_of_lt (blk_lt (bG BK132.out)) : gb132 ≠ gb139)); have n11_ := Aside0.mk ((by rw [hg]; exact Nat.ne_of_gt (blk_lt (bG BK132.out)) : gb139 ≠ gb132)); have n12_ := Aside0.mk ((by rw [hg]; exact Nat.ne_of_lt (blk_lt (bG BK133.out)) : gb133 ≠ gb139)); have n13_ := Aside0.mk ((by rw [hg]; exact Nat.ne_of_gt (blk_lt (bG BK133.out)) : gb139 ≠ gb133)); clear HO138; clear BK131; clear BK132; clear BK133; clear HB; have HO138 := n0_; have BK131 := n1_; have BK132 := n2_; have BK133 := n3_; have HB := n4_; have BK139 := n5_; have GW139 := n6_; have GE139 := n7_; have ig139_ := geI GE139
        have NB131_139 := n8_; have NB139_131 := n9_; have NB132_139 := n10_; have NB139_132 := n11_; have NB133_139 := n12_; have NB139_133 := n13_; clear n0_ n1_ n2_ n3_ n4_ n5_ n6_ n7_ n8_ n9_ n10_ n11_ n12_ n13_; clear hb hbox hg; refine hK.out _ _ ⟨(blk_cell BK131.out 0).trans rfl, (blk_cell BK131.out 1).trans rfl⟩ (fun hHeld => ?_); clear hK K; refine norm_ (a' := ?_) ?_ ?_; rotate_left
        ·
         show Act.put _ (some 6) _ = _
         simp only [Act.put, sIA, sC0, sCS, i64_w, i32_w]; rfl
        exact norm_ (by simp only [putAll, Act.put, sIA, sC0, sCS]) (hCont (.slice Ao25 t136.length co25, gb139) _ ⟨hHeld, (by (with_reducible repeat (first | apply Kd.R_alloc | apply Kd.R_drewN | apply Kd.R_drew)); exact Kd.R_mono HO138.out (fun _ hk => hk.2)), (bG BK131.out), (bG BK132.out), (bG BK133.out), (bG BK139.out), GW139.out, GE139.out, NB131_139.out, NB139_131.out, NB132_139.out, NB139_132.out, NB133_139.out, NB139_133.out, (eG HB.out)⟩)
       ·
        skip
        refine box_step ?hg (N := 6) ?hd (cs := #[.int .i64 0, .slice none 0 0]) (t := 24) ?hr ?_; (case hd => rfl); (case hg => rfl); (case hr => first | (go_simp; done) | (go_simp; rfl))
        intro gb139 hg w24 hbox hb; have n0_ := Aside0.mk (blk_below (bG BK131.out) hb); have n1_ := Aside0.mk (blk_below (bG BK132.out) hb); have n2_ := Aside0.mk (blk_below (bG BK133.out) hb); have n3_ := Aside0.mk (below_step (eG HB.out) hb); have n4_ := Aside0.mk (hbox); have n5_ := Aside0.mk ((by rw [hg]; exact (below_size (eG HB.out)) : w.heap.size ≤ gb139)); have n6_ := Aside0.mk ((by rw [hg]; exact (below_size (eG HB.out)) : w.heap.size ≤ gb139)); have n7_ := Aside0.mk ((by rw [hg]; exact Nat.ne_of_lt (blk_lt (bG BK131.out)) : gb131 ≠ gb139)); have n8_ := Aside0.mk ((by rw [hg]; exact Nat.ne_of_gt (blk_lt (bG BK131.out)) : gb139 ≠ gb131)); have n9_ := Aside0.mk ((by rw [hg]; exact Nat.ne_of_lt (blk_lt (bG BK132.out)) : gb132 ≠ gb139)); have n10_ := Aside0.mk ((by rw [hg]; exact Nat.ne_of_gt (blk_lt (bG BK132.out)) : gb139 ≠ gb132)); have n11_ := Aside0.mk ((by rw [hg]; exact Nat.ne_of_lt (blk_lt (bG BK133.out)) : gb133 ≠ gb139)); have n12_ := Aside0.mk ((by rw [hg]; exact Nat.ne_of_gt (blk_lt (bG BK133.out)) : gb139 ≠ gb133)); clear BK131; clear BK132; clear BK133; clear HB; have BK131 := n0_; have BK132 := n1_; have BK133 := n2_; have HB := n3_; have BK139 := n4_; have GW139 := n5_; have GE139 := n6_; have ig139_ := geI GE139
        have NB131_139 := n7_; have NB139_131 := n8_; have NB132_139 := n9_; have NB139_132 := n10_; have NB133_139 := n11_; have NB139_133 := n12_; clear n0_ n1_ n2_ n3_ n4_ n5_ n6_ n7_ n8_ n9_ n10_ n11_ n12_; clear hb hbox hg; refine hK.out _ _ ⟨(blk_cell BK131.out 0).trans rfl, (blk_cell BK131.out 1).trans rfl⟩ (fun hHeld => ?_); clear hK K; refine norm_ (a' := ?_) ?_ ?_; rotate_left
        ·
         show Act.put _ (some 6) _ = _
         simp only [Act.put, sIA, sC0, sCS, i64_w, i32_w]; rfl
        refine one_ (i := 4) (N := some 23) #[true, true, true, true, true, false, true, false] rfl rfl (one_of HT_.out (by kernel_rfl)) (by decide) (fun K hK => ?_); refine goes_ Tryz.func38 (by kernel_rfl) rfl #[.slice A0_1 l0_1.length c0_1] (by rfl) rfl rfl (by (try simp only [List.map_toArray, List.map_cons, List.map_nil]); first | done | rfl | (simp only [List.length_drop, List.length_take]; rfl)) ?_; with_reducible refine (slices_Clone26.calls _ _ l0_1 t136 _ ?side1 ?side2 A7.out).mono ?_
        (case side1 => repeat (first | exact (Kd.C_below HR0_1.out HB.out) | (with_reducible refine Kd.C_alloc ?_ _) | (with_reducible refine Kd.C_drewN ?_ _) | (with_reducible refine Kd.C_drew ?_)))
        (case side2 => exact HC0_1.out)
        rintro e w25 ⟨v137, rfl, ho0, hb⟩; refine ⟨_, rfl, ?_⟩; have n0_ := Aside0.mk (Kd.R_lower (Kd.R_newB ho0 (bG BK132.out)) (below_size (eG HB.out))); have n1_ := Aside0.mk (blk_below (bG BK131.out) hb); have n2_ := Aside0.mk (blk_below (bG BK132.out) hb); have n3_ := Aside0.mk (blk_below (bG BK133.out) hb); have n4_ := Aside0.mk (blk_below (bG BK139.out) hb); have n5_ := Aside0.mk (below_step (eG HB.out) hb); clear BK131; clear BK132; clear BK133; clear BK139; clear HB; have HO138 := n0_; have BK131 := n1_; have BK132 := n2_; have BK133 := n3_; have BK139 := n4_; have HB := n5_; clear n0_ n1_ n2_ n3_ n4_ n5_; (try clear hb)
        (try clear hb2)
        (try clear hk)
        (try clear hi)
        (try clear ho0)
        obtain ⟨Ao26, co26, eo26⟩ := Kd.R_slice HO138.out; (first | subst eo26 | (injection eo26 with f1_ f2_ f3_; have f4_ := f1_.symm; have f5_ := f3_.symm; clear f1_ f2_ f3_; subst f4_; subst f5_))
        refine hK.out _ _ ⟨(blk_cell BK131.out 0).trans rfl, (blk_cell BK131.out 1).trans rfl⟩ (fun hHeld => ?_); clear hK K; refine norm_ (a' := ?_) ?_ ?_; rotate_left
        ·
         show Act.put _ (some 23) _ = _
         simp only [Act.put, sIA, sC0, sCS, i64_w, i32_w]; rfl
        refine pure_ (i := 5) (N := some 24) (v := ?_) (a' := ?_) #[true, true, true, true, true, true, true, false] rfl rfl (any_of HT_.out (by kernel_rfl)) (fun _ _ _ h => h) (Or.inl ⟨by rfl, ?_⟩) ?_ ?_; rotate_left
        · intro w'; go_simp; with_reducible rfl
        rotate_left
        · simp only [Act.put, sIA, sC0, sCS, i64_w, i32_w]; rfl
        exact norm_ (by simp only [putAll, Act.put, sIA, sC0, sCS]) (hCont (.slice Ao26 t136.length co26, gb139) _ ⟨hHeld, (by (with_reducible repeat (first | apply Kd.R_alloc | apply Kd.R_drewN | apply Kd.R_drew)); exact Kd.R_mono HO138.out (fun _ hk => hk.2)), (bG BK131.out), (bG BK132.out), (bG BK133.out), (bG BK139.out), GW139.out, GE139.out, NB131_139.out, NB139_131.out, NB132_139.out, NB139_132.out, NB133_139.out, NB139_133.out, (eG HB.out)⟩)
      rintro ⟨v137, gb139⟩ w27 ⟨hS_, h0_, h1_, h2_, h3_, h4_, h5_, h6_, h7_, h8_, h9_, h10_, h11_, h12_, h13_⟩; have n0_ : Aside0 (Kd.R k26 26 w27 w.heap.size (fun k_ => k_ ≠ gb132) v137 t136) := ⟨h0_⟩; have n1_ : Aside0 (w27.heap[gb131]? = some (.cells #[.int .i64 a0_0, .slice A0_1 l0_1.length c0_1] 24 (0, 0))) := ⟨h1_⟩; have n2_ : Aside0 (w27.heap[gb132]? = some (.cells #[.int .i64 a1_0, .int .i64 a1_1, .int .i64 a1_2] 26 (0, 0))) := ⟨h2_⟩; have n3_ : Aside0 (w27.heap[gb133]? = some (.cells #[.int .i64 0, .slice none 0 0] 24 (0, 0))) := ⟨h3_⟩; have n4_ : Aside0 (w27.heap[gb139]? = some (.cells #[.int .i64 0, .slice none 0 0] 24 (0, 0))) := ⟨h4_⟩; have n5_ : Aside0 (w.heap.size ≤ gb139) := ⟨h5_⟩; have n6_ : Aside0 (w.heap.size ≤ gb139) := ⟨h6_⟩; have n7_ : Aside0 (gb131 ≠ gb139) := ⟨h7_⟩; have n8_ : Aside0 (gb139 ≠ gb131) := ⟨h8_⟩; have n9_ : Aside0 (gb132 ≠ gb139) := ⟨h9_⟩; have n10_ : Aside0 (gb139 ≠ gb132) := ⟨h10_⟩; have n11_ : Aside0 (gb133 ≠ gb139) := ⟨h11_⟩; have n12_ : Aside0 (gb139 ≠ gb133) := ⟨h12_⟩; have n13_ : Aside0 (Below w.heap.size w w27) := ⟨h13_⟩; clear BK131; clear BK132; clear BK133; clear HB; clear h0_ h1_ h2_ h3_ h4_ h5_ h6_ h7_ h8_ h9_ h10_ h11_ h12_ h13_; have HO138 := n0_; have BK131 := n1_; have BK132 := n2_; have BK133 := n3_; have BK139 := n4_; have GW139 := n5_; have GE139 := n6_; have ig139_ := geI GE139
      have NB131_139 := n7_; have NB139_131 := n8_; have NB132_139 := n9_; have NB139_132 := n10_; have NB133_139 := n11_; have NB139_133 := n12_; have HB := n13_; clear n0_ n1_ n2_ n3_ n4_ n5_ n6_ n7_ n8_ n9_ n10_ n11_ n12_ n13_; have hHeld : w27.cell? ⟨gb131, 0, none⟩ = some (.int .i64 a0_0) ∧ w27.cell? ⟨gb131, 1, none⟩ = some (.slice A0_1 l0_1.length c0_1) := hS_; obtain ⟨Ao28, co28, eo28⟩ := Kd.R_slice HO138.out; (first | subst eo28 | (injection eo28 with f1_ f2_ f3_; have f4_ := f1_.symm; have f5_ := f3_.symm; clear f1_ f2_ f3_; subst f4_; subst f5_))
      refine norm_ (a' := ?_) ?_ ?_; rotate_left
      · simp only [putAll, Act.put, sIA, sC0, sCS]; rfl
      refine one_ (i := 7) (N := none) #[true, true, true, true, true, true, true, true] rfl rfl (one_of HT_.out (by kernel_rfl)) (by decide) (fun K hK => ?_); have hs29 : w27.cell? ⟨gb139, 0, none⟩ = some (.int .i64 0) := (blk_cell BK139.out 0).trans rfl; have hfs29 := blk_frozen BK139.out 0; have hns29_0 := NB131_139.out; have hns29_1 := NB132_139.out; have hns29_2 := NB133_139.out; have hms29_0 := NB139_131.out; have hms29_1 := NB139_132.out; have hms29_2 := NB139_133.out; have hs30 : w27.cell? ⟨gb139, 1, none⟩ = some (.slice none 0 0) := (blk_cell BK139.out 1).trans rfl; have hfs30 := blk_frozen BK139.out 1; have hns30_0 := NB131_139.out; have hns30_1 := NB132_139.out; have hns30_2 := NB133_139.out; have hms30_0 := NB139_131.out; have hms30_1 := NB139_132.out; have hms30_2 := NB139_133.out; refine skip_ (w1 := ?_) (by rfl) rfl ?_ ?_; rotate_left
      · go_simp; rfl
      refine hK.out _ _ ⟨((cell_far (p := ⟨gb139, _, none⟩) NB131_139.out _).trans (((cell_far (p := ⟨gb139, _, none⟩) NB131_139.out _).trans (hHeld.1)))), ((cell_far (p := ⟨gb139, _, none⟩) NB131_139.out _).trans (((cell_far (p := ⟨gb139, _, none⟩) NB131_139.out _).trans (hHeld.2))))⟩ (fun hHeld => ?_); clear hK K; refine done_ (done_of HT_.out (by kernel_rfl)) ?_; have hnb31 := NB139_131.out; have hnc31 := NB131_139.out; have hnb32 := NB139_132.out; have hnc32 := NB132_139.out; have hnb33 := NB139_133.out; have hnc33 := NB133_139.out; have hcz34_0 : w27.cell? ⟨gb139, 0, none⟩ = some (.int .i64 0) := (blk_cell BK139.out 0).trans rfl; have hcz34_1 : w27.cell? ⟨gb139, 1, none⟩ = some (.slice none 0 0) := (blk_cell BK139.out 1).trans rfl; have hfz34_0 := blk_frozen BK139.out 0; have hfz34_1 := blk_frozen BK139.out 1; have hcz35_0 : w27.cell? ⟨gb132, 0, none⟩ = some (.int .i64 a1_0) := (blk_cell BK132.out 0).trans rfl; have hcz35_1 : w27.cell? ⟨gb132, 1, none⟩ = some (.int .i64 a1_1) := (blk_cell BK132.out 1).trans rfl; have hcz35_2 : w27.cell? ⟨gb132, 2, none⟩ = some (.int .i64 a1_2) := (blk_cell BK132.out 2).trans rfl; have hfz35_0 := blk_frozen BK132.out 0; have hfz35_1 := blk_frozen BK132.out 1; have hfz35_2 := blk_frozen BK132.out 2; try go_wp2_with (first | ((with_reducible refine gate_callee (f := 42) rfl ?_); refine goesL_ (some 29) rfl rfl Tryz.func42 (by kernel_rfl) rfl #[.slice Ao28 t136.length co28, .agg #[.int .i64 a1_0, .int .i64 a1_1, .int .i64 a1_2], .func (.func 37) #[] #[]] rfl (by (try simp only [List.map_toArray, List.map_cons, List.map_nil]); first | done | rfl | (simp only [List.length_drop, List.length_take]; rfl)) ?_; (with_reducible refine (api_Rate_42_at_37.calls k _ _ t136 a1_0 a1_1 a1_2 t140 true _ ?side1 ?side2 A8.out).mono ?_); (case side1 => refine (Kd.R_reads' (e := 26) (base := w.heap.size) (ok := fun k_ => k_ ≠ gb132) (n := t136.length) (c := co28) ?_).2.2; exact (by (with_reducible repeat (first | apply Kd.R_alloc | apply Kd.R_drewN | apply Kd.R_drew)); exact (Kd.R_mono (Kd.R_far (p := ⟨gb139, 1, none⟩) (Kd.R_far (p := ⟨gb139, 0, none⟩) (Kd.R_types HO138.out BK139.out (by decide)) (fun _ hk => hk.2) (.int .i64 a0_0)) (fun _ hk => hk.2) (.slice Ao28 t136.length co28)) (fun _ h_ => h_.1)))); (case side2 => exact (Kd.R_reads' HO138.out).2.1); rintro e w36 ⟨rfl, hb⟩; refine ⟨_, rfl, ?_⟩; have n0_ := Aside0.mk (Kd.R_below (by (with_reducible repeat (first | apply Kd.R_alloc | apply Kd.R_drewN | apply Kd.R_drew)); exact (Kd.R_mono (Kd.R_far (p := ⟨gb139, 1, none⟩) (Kd.R_far (p := ⟨gb139, 0, none⟩) (Kd.R_types HO138.out BK139.out (by decide)) (fun _ hk => hk.2) (.int .i64 a0_0)) (fun _ hk => hk.2) (.slice Ao28 t136.length co28)) (fun _ h_ => h_.1))) hb); have n1_ := Aside0.mk (blk_below (g := gb131) (o := .cells #[.int .i64 a0_0, .slice A0_1 l0_1.length c0_1] 24 (0, 0)) (by (with_reducible repeat first | apply bN | apply bD | apply bA); refine blk_far ?_ NB131_139.out _; (with_reducible repeat first | apply bN | apply bD | apply bA); refine blk_far ?_ NB131_139.out _; (with_reducible repeat first | apply bN | apply bD | apply bA); exact BK131.out) hb); have n2_ := Aside0.mk (blk_below (g := gb132) (o := .cells #[.int .i64 a1_0, .int .i64 a1_1, .int .i64 a1_2] 26 (0, 0)) (by (with_reducible repeat first | apply bN | apply bD | apply bA); refine blk_far ?_ NB132_139.out _; (with_reducible repeat first | apply bN | apply bD | apply bA); refine blk_far ?_ NB132_139.out _; (with_reducible repeat first | apply bN | apply bD | apply bA); exact BK132.out) hb); have n3_ := Aside0.mk (blk_below (g := gb133) (o := .cells #[.int .i64 0, .slice none 0 0] 24 (0, 0)) (by (with_reducible repeat first | apply bN | apply bD | apply bA); refine blk_far ?_ NB133_139.out _; (with_reducible repeat first | apply bN | apply bD | apply bA); refine blk_far ?_ NB133_139.out _; (with_reducible repeat first | apply bN | apply bD | apply bA); exact BK133.out) hb); have n4_ := Aside0.mk (blk_below (g := gb139) (o := .cells #[.int .i64 a0_0, .slice Ao28 t136.length co28] 24 (0, 0)) (by (with_reducible repeat first | apply bN | apply bD | apply bA); refine blk_put (cs := #[.int .i64 a0_0, .slice none 0 0]) ?_ 1 _ rfl; (with_reducible repeat first | apply bN | apply bD | apply bA); refine blk_put (cs := #[.int .i64 0, .slice none 0 0]) ?_ 0 _ rfl; (with_reducible repeat first | apply bN | apply bD | apply bA); exact BK139.out) hb); have n5_ := Aside0.mk (below_step (eG HB.out) hb); clear HO138; clear BK131; clear BK132; clear BK133; clear BK139; clear HB; have HO138 := n0_; have BK131 := n1_; have BK132 := n2_; have BK133 := n3_; have BK139 := n4_; have HB := n5_; clear n0_ n1_ n2_ n3_ n4_ n5_; (try clear hb); (try clear hb2); (try clear hk); (try clear hi); have hcz37_0 : w36.cell? ⟨gb139, 0, none⟩ = some (.int .i64 a0_0) := (blk_cell BK139.out 0).trans rfl; have hcz37_1 : w36.cell? ⟨gb139, 1, none⟩ = some (.slice Ao28 t136.length co28) := (blk_cell BK139.out 1).trans rfl; have hfz37_0 := blk_frozen BK139.out 0; have hfz37_1 := blk_frozen BK139.out 1; have hcz38_0 : w36.cell? ⟨gb132, 0, none⟩ = some (.int .i64 a1_0) := (blk_cell BK132.out 0).trans rfl; have hcz38_1 : w36.cell? ⟨gb132, 1, none⟩ = some (.int .i64 a1_1) := (blk_cell BK132.out 1).trans rfl; have hcz38_2 : w36.cell? ⟨gb132, 2, none⟩ = some (.int .i64 a1_2) := (blk_cell BK132.out 2).trans rfl; have hfz38_0 := blk_frozen BK132.out 0; have hfz38_1 := blk_frozen BK132.out 1; have hfz38_2 := blk_frozen BK132.out 2; have p12 : 0 ≤ (t140 : Int) := of_decide_eq_true (by first | (with_reducible assumption) | assumption); have q12 : (t140 : Int) < ((t136.length : Int) : Int) := of_decide_eq_true (by first | (with_reducible assumption) | assumption); obtain ⟨go12, co12, eo12, gb12, gl12, cl12, HG12⟩ := Kd.R_form HO138.out (by omega); (first | cases eo12 | (injection eo12 with ea_ en_ ec_; (first | subst ea_ | (injection ea_ with ea_; subst ea_)); subst ec_; clear en_)); have GB12 := Aside0.mk gb12; have GG12 := Aside0.mk HG12; clear gb12 gl12 HG12; obtain ⟨ce12, hcl12, hM12, hcc12, hfr12⟩ := Kd.R_elem HO138.out z26 (t140 : Int) p12 q12; obtain rfl := k26_openM hM12; have hx12_0 : w36.cell? ⟨go12, (t140 : Int).toNat * 3, none⟩ = some (.int .i64 ((rd_T26 t136 t140).f0)) := hcc12 0 _ rfl; have hx12_1 : w36.cell? ⟨go12, (t140 : Int).toNat * 3 + 1, none⟩ = some (.int .i64 ((rd_T26 t136 t140).f1)) := hcc12 1 _ rfl; have hx12_2 : w36.cell? ⟨go12, (t140 : Int).toNat * 3 + 2, none⟩ = some (.int .i64 ((rd_T26 t136 t140).f2)) := hcc12 2 _ rfl; have hf12_0 : w36.frozen? ⟨go12, (t140 : Int).toNat * 3, none⟩ = false := hfr12 0; have hf12_1 : w36.frozen? ⟨go12, (t140 : Int).toNat * 3 + 1, none⟩ = false := hfr12 1; have hf12_2 : w36.frozen? ⟨go12, (t140 : Int).toNat * 3 + 2, none⟩ = false := hfr12 2; clear hcl12 hcc12 hfr12 hM12; replace p12 := eq_true p12; replace q12 := eq_true q12; have HX39 := Aside0.mk (show Kd.R k26 26 w36 w.heap.size (fun k_ => k_ ≠ gb132) (.slice (some ⟨go12, 0, none⟩) t136.length co28) t136 from (rG HO138.out)); obtain ⟨ce39, hcl39, hM39, hcc39, hfr39⟩ := Kd.R_elem HX39.out z26 (t140 : Int) (of_decide_eq_true (by first | (with_reducible assumption) | assumption)) (by have h_ : (t140 : Int) < ((t136.length : Int) : Int) := of_decide_eq_true (by first | (with_reducible assumption) | assumption); first | exact h_ | (have e_ := (Kd.R_reads' HO138.out).1; omega) | simpa using h_); obtain rfl := k26_openM hM39; have HP39 := Kd.R_seg HX39.out (t140 : Int) (of_decide_eq_true (by first | (with_reducible assumption) | assumption)) (by have h_ : (t140 : Int) < ((t136.length : Int) : Int) := of_decide_eq_true (by first | (with_reducible assumption) | assumption); first | exact h_ | (have e_ := (Kd.R_reads' HO138.out).1; omega) | simpa using h_) (seg := [.int .i64 a1_0, .int .i64 a1_1, .int .i64 a1_2]) (j := 0) hcl39 hcc39 (show 3 ≤ 3 from by decide) (x' := (⟨a1_0, a1_1, a1_2⟩ : S26)) (k26_mkM _ _ _ (⟨a1_0, a1_1, a1_2⟩ : S26) ) (fun _ hk => hk); have hx39_0 := hcc39 0 _ rfl; (try simp only [show (k26).sz = 3 from rfl, Nat.mul_one, Nat.add_zero] at hx39_0); have hf39_0 := hfr39 0; (try simp only [show (k26).sz = 3 from rfl, Nat.mul_one, Nat.add_zero] at hf39_0); have hx39_1 := hcc39 1 _ rfl; (try simp only [show (k26).sz = 3 from rfl, Nat.mul_one, Nat.add_zero] at hx39_1); have hf39_1 := hfr39 1; (try simp only [show (k26).sz = 3 from rfl, Nat.mul_one, Nat.add_zero] at hf39_1); have hx39_2 := hcc39 2 _ rfl; (try simp only [show (k26).sz = 3 from rfl, Nat.mul_one, Nat.add_zero] at hx39_2); have hf39_2 := hfr39 2; (try simp only [show (k26).sz = 3 from rfl, Nat.mul_one, Nat.add_zero] at hf39_2); clear hcl39 hcc39 hfr39 hM39) | ((with_reducible refine gate_store (t := 26) (p := 37) rfl ?_); refine store_event (t := 26) (p := 37) (v := ?vo_w40) (w1 := (((w36.setCell ⟨go12, (t140 : Int).toNat * 3, none⟩ (.int .i64 a1_0)).setCell ⟨go12, (t140 : Int).toNat * 3 + 1, none⟩ (.int .i64 a1_1)).setCell ⟨go12, (t140 : Int).toNat * 3 + 2, none⟩ (.int .i64 a1_2))) ?hg ?ho ?hn ?hr ?_; (case ho => rfl); (case hg => rfl); (case hn => rfl); (case hr => first | (go_simp; done) | (go_simp; rfl)); intro w40 hw; have hg : w36.grownBy w40 (some go12) := (by rw [hw]; exact HP39.2); have hp_ : Kd.R k26 26 w40 w.heap.size (fun k_ => k_ ≠ gb132) (.slice (some ⟨go12, 0, none⟩) t136.length co28) y142 := (by rw [hw, Ny142.out]; exact HP39.1); clear HP39; have n0_ := Aside0.mk (blk_grown (bG BK131.out) hg (Kd.R_ne HO138.out BK131.out (by decide))); have n1_ := Aside0.mk (blk_grown (bG BK132.out) hg (Kd.R_away HO138.out (fun _ hk => hk))); have n2_ := Aside0.mk (blk_grown (bG BK133.out) hg (Kd.R_ne HO138.out BK133.out (by decide))); have n3_ := Aside0.mk (hp_); have n4_ := Aside0.mk (blk_grown (bG BK139.out) hg (Kd.R_ne HO138.out BK139.out (by decide))); have n5_ := Aside0.mk ((by rw [hw]; exact below_set (below_set (below_set (HB.out) GB12.out) GB12.out) GB12.out : Below w.heap.size w w40)); clear BK131; clear BK132; clear BK133; clear HO138; clear BK139; clear HB; have BK131 := n0_; have BK132 := n1_; have BK133 := n2_; have HO138 := n3_; have BK139 := n4_; have HB := n5_; clear n0_ n1_ n2_ n3_ n4_ n5_; clear hg hw hp_; have hcz41_0 : w40.cell? ⟨gb139, 0, none⟩ = some (.int .i64 a0_0) := (blk_cell BK139.out 0).trans rfl; have hcz41_1 : w40.cell? ⟨gb139, 1, none⟩ = some (.slice (some ⟨go12, 0, none⟩) t136.length co28) := (blk_cell BK139.out 1).trans rfl; have hfz41_0 := blk_frozen BK139.out 0; have hfz41_1 := blk_frozen BK139.out 1; have hcz42_0 : w40.cell? ⟨gb133, 0, none⟩ = some (.int .i64 0) := (blk_cell BK133.out 0).trans rfl; have hcz42_1 : w40.cell? ⟨gb133, 1, none⟩ = some (.slice none 0 0) := (blk_cell BK133.out 1).trans rfl; have hfz42_0 := blk_frozen BK133.out 0; have hfz42_1 := blk_frozen BK133.out 1))
      refine bodyPost_ret (results_ct rfl _ _ gb133 24 #[.int .i64 a0_0, .slice (some ⟨go12, 0, none⟩) t136.length co28] (0, 0) _ rfl (by (with_reducible repeat first | apply bN | apply bD | apply bA); refine blk_put (cs := #[.int .i64 a0_0, .slice none 0 0]) ?_ 1 _ rfl; (with_reducible repeat first | apply bN | apply bD | apply bA); refine blk_put (cs := #[.int .i64 0, .slice none 0 0]) ?_ 0 _ rfl; (with_reducible repeat first | apply bN | apply bD | apply bA); exact BK133.out) Tryz.underlying24 rfl (by kernel_rfl)) rfl ?_; exact ⟨_, by first | rfl | (simp [errW_none, errW_some] <;> rfl) | (simp [*, errW_none, errW_some] <;> rfl), by (with_reducible repeat (first | apply Kd.R_alloc | apply Kd.R_drewN | apply Kd.R_drew)); exact Kd.R_mono (Kd.R_far (p := ⟨gb133, 1, none⟩) (Kd.R_far (p := ⟨gb133, 0, none⟩) (Kd.R_types HO138.out BK133.out (by decide)) (fun _ hk => hk.2) (.int .i64 a0_0)) (fun _ hk => hk.2) (.slice (some ⟨go12, 0, none⟩) t136.length co28)) (fun _ hk => trivial), eG HB.out⟩
     · rw [if_neg c11] at H; exact absurd H (by simp)
    · rw [if_neg c10] at H; exact absurd H (by simp)
   ·
    replace c9 := Bool.eq_false_iff.mpr c9; subst c9; replace H : ((slices_Insert26.f t136 t140 (([(⟨a1_0, a1_1, a1_2⟩ : S26)] : List (S26)))).bind fun t146 => (if (t146.length : Int) > 64 then (some (0, ([] : List (S26)), 8)) else (some (a0_0, t146, 0)))) = some (r1, r2, r3) := by rw [if_neg (show ¬ (false = true) by decide)] at H; exact H
    obtain ⟨y143, hy143⟩ : ∃ y_ : List (S26), y_ = (([(⟨a1_0, a1_1, a1_2⟩ : S26)] : List (S26))) := ⟨_, rfl⟩; replace H : ((slices_Insert26.f t136 t140 y143).bind fun t146 => (if (t146.length : Int) > 64 then (some (0, ([] : List (S26)), 8)) else (some (a0_0, t146, 0)))) = some (r1, r2, r3) := by first | (rw [hy143]; with_reducible exact H) | (have H2_ := (Option.bind_some _ _).symm.trans H; rw [hy143]; with_reducible exact H2_) | (have H2_ := (Option.bind_some _ _).symm.trans H; with_reducible exact H2_) | with_reducible exact H | (rw [hy143]; exact H) | exact H
    have Ny143 := Aside0.mk hy143; clear hy143; replace H := Option.bind_eq_some_iff.mp H; obtain ⟨t146, A430, H⟩ := H; replace H : (if (t146.length : Int) > 64 then (some (0, ([] : List (S26)), 8)) else (some (a0_0, t146, 0))) = some (r1, r2, r3) := H; have A43 := Aside0.mk A430; clear A430; by_cases c44 : (t146.length : Int) > 64
    ·
     rw [if_pos c44] at H; have c44b0 : decide (64 < (t146.length : Int)) = true := decide_eq_true c44; have c44b1 : decide (64 < t146.length) = true := decide_eq_true (by omega); clear c44; simp only [Option.some.injEq, Prod.mk.injEq] at H; obtain ⟨rfl, rfl, rfl⟩ := H; go_enter Tryz.func16, Tryz.ntmps16
     try go_wp2_with (first | ((with_reducible refine gate_dst (N := 2) rfl ?_); refine box_event ?hg (N := 2) ?hd (cs := #[.int .i64 a0_0, .slice A0_1 l0_1.length c0_1]) (t := 24) ?hr ?_; (case hd => rfl); (case hg => rfl); (case hr => first | (go_simp; done) | (go_simp; rfl)); intro gb131 hg w45 hbox hb; have n0_ := Aside0.mk (below_step (eG HB.out) hb); have n1_ := Aside0.mk (hbox); have n2_ := Aside0.mk ((by rw [hg]; exact (below_size (eG HB.out)) : w.heap.size ≤ gb131)); have n3_ := Aside0.mk ((by rw [hg]; exact (below_size (eG HB.out)) : w.heap.size ≤ gb131)); clear HB; have HB := n0_; have BK131 := n1_; have GW131 := n2_; have GE131 := n3_; have ig131_ := geI GE131; clear n0_ n1_ n2_ n3_; clear hb hbox hg) | ((with_reducible refine gate_dst (N := 3) rfl ?_); refine box_event ?hg (N := 3) ?hd (cs := #[.int .i64 a1_0, .int .i64 a1_1, .int .i64 a1_2]) (t := 26) ?hr ?_; (case hd => rfl); (case hg => rfl); (case hr => first | (go_simp; done) | (go_simp; rfl)); intro gb132 hg w46 hbox hb; have n0_ := Aside0.mk (blk_below (bG BK131.out) hb); have n1_ := Aside0.mk (below_step (eG HB.out) hb); have n2_ := Aside0.mk (hbox); have n3_ := Aside0.mk ((by rw [hg]; exact (below_size (eG HB.out)) : w.heap.size ≤ gb132)); have n4_ := Aside0.mk ((by rw [hg]; exact (below_size (eG HB.out)) : w.heap.size ≤ gb132)); have n5_ := Aside0.mk ((by rw [hg]; exact Nat.ne_of_lt (blk_lt (bG BK131.out)) : gb131 ≠ gb132)); have n6_ := Aside0.mk ((by rw [hg]; exact Nat.ne_of_gt (blk_lt (bG BK131.out)) : gb132 ≠ gb131)); clear BK131; clear HB; have BK131 := n0_; have HB := n1_; have BK132 := n2_; have GW132 := n3_; have GE132 := n4_; have ig132_ := geI GE132; have NB131_132 := n5_; have NB132_131 := n6_; clear n0_ n1_ n2_ n3_ n4_ n5_ n6_; clear hb hbox hg) | ((with_reducible refine gate_dst (N := 4) rfl ?_); refine box_event ?hg (N := 4) ?hd (cs := #[.int .i64 0, .slice none 0 0]) (t := 24) ?hr ?_; (case hd => rfl); (case hg => rfl); (case hr => first | (go_simp; done) | (go_simp; rfl)); intro gb133 hg w47 hbox hb; have n0_ := Aside0.mk (blk_below (bG BK131.out) hb); have n1_ := Aside0.mk (blk_below (bG BK132.out) hb); have n2_ := Aside0.mk (below_step (eG HB.out) hb); have n3_ := Aside0.mk (hbox); have n4_ := Aside0.mk ((by rw [hg]; exact (below_size (eG HB.out)) : w.heap.size ≤ gb133)); have n5_ := Aside0.mk ((by rw [hg]; exact (below_size (eG HB.out)) : w.heap.size ≤ gb133)); have n6_ := Aside0.mk ((by rw [hg]; exact Nat.ne_of_lt (blk_lt (bG BK131.out)) : gb131 ≠ gb133)); have n7_ := Aside0.mk ((by rw [hg]; exact Nat.ne_of_gt (blk_lt (bG BK131.out)) : gb133 ≠ gb131)); have n8_ := Aside0.mk ((by rw [hg]; exact Nat.ne_of_lt (blk_lt (bG BK132.out)) : gb132 ≠ gb133)); have n9_ := Aside0.mk ((by rw [hg]; exact Nat.ne_of_gt (blk_lt (bG BK132.out)) : gb133 ≠ gb132)); clear BK131; clear BK132; clear HB; have BK131 := n0_; have BK132 := n1_; have HB := n2_; have BK133 := n3_; have GW133 := n4_; have GE133 := n5_; have ig133_ := geI GE133; have NB131_133 := n6_; have NB133_131 := n7_; have NB132_133 := n8_; have NB133_132 := n9_; clear n0_ n1_ n2_ n3_ n4_ n5_ n6_ n7_ n8_ n9_; clear hb hbox hg; have hnb48 := NB131_132.out; have hnc48 := NB132_131.out; have hnb49 := NB131_133.out; have hnc49 := NB133_131.out; have hcz50_0 : w47.cell? ⟨gb131, 0, none⟩ = some (.int .i64 a0_0) := (blk_cell BK131.out 0).trans rfl; have hcz50_1 : w47.cell? ⟨gb131, 1, none⟩ = some (.slice A0_1 l0_1.length c0_1) := (blk_cell BK131.out 1).trans rfl; have hfz50_0 := blk_frozen BK131.out 0; have hfz50_1 := blk_frozen BK131.out 1) | ((with_reducible refine gate_callee (f := 41) rfl ?_); refine goesL_ (some 11) rfl rfl Tryz.func41 (by kernel_rfl) rfl #[.agg #[.int .i64 a0_0, .slice A0_1 l0_1.length c0_1]] rfl (by (try simp only [List.map_toArray, List.map_cons, List.map_nil]); first | done | rfl | (simp only [List.length_drop, List.length_take]; rfl)) ?_; (with_reducible refine (tariff_right.calls k a0_0 _ _ l0_1 true _ ?side1 ?side2 A3.out).mono ?_); (case side1 => repeat (first | exact (Kd.C_below HR0_1.out HB.out) | (with_reducible refine Kd.C_alloc ?_ _) | (with_reducible refine Kd.C_drewN ?_ _) | (with_reducible refine Kd.C_drew ?_))); (case side2 => exact HC0_1.out); rintro e w51 ⟨rfl, hb⟩; refine ⟨_, rfl, ?_⟩; have n0_ := Aside0.mk (blk_below (bG BK131.out) hb); have n1_ := Aside0.mk (blk_below (bG BK132.out) hb); have n2_ := Aside0.mk (blk_below (bG BK133.out) hb); have n3_ := Aside0.mk (below_step (eG HB.out) hb); clear BK131; clear BK132; clear BK133; clear HB; have BK131 := n0_; have BK132 := n1_; have BK133 := n2_; have HB := n3_; clear n0_ n1_ n2_ n3_; (try clear hb); (try clear hb2); (try clear hk); (try clear hi); have hnb52 := NB132_133.out; have hnc52 := NB133_132.out; have hcz53_0 : w51.cell? ⟨gb132, 0, none⟩ = some (.int .i64 a1_0) := (blk_cell BK132.out 0).trans rfl; have hcz53_1 : w51.cell? ⟨gb132, 1, none⟩ = some (.int .i64 a1_1) := (blk_cell BK132.out 1).trans rfl; have hcz53_2 : w51.cell? ⟨gb132, 2, none⟩ = some (.int .i64 a1_2) := (blk_cell BK132.out 2).trans rfl; have hfz53_0 := blk_frozen BK132.out 0; have hfz53_1 := blk_frozen BK132.out 1; have hfz53_2 := blk_frozen BK132.out 2) | ((with_reducible refine gate_callee (f := 36) rfl ?_); refine goesL_ (some 16) rfl rfl Tryz.func36 (by kernel_rfl) rfl #[.agg #[.int .i64 a1_0, .int .i64 a1_1, .int .i64 a1_2]] rfl (by (try simp only [List.map_toArray, List.map_cons, List.map_nil]); first | done | rfl | (simp only [List.length_drop, List.length_take]; rfl)) ?_; (with_reducible refine (tariff_ranged.calls a1_0 a1_1 a1_2 true _ A5.out).mono ?_); rintro e w54 ⟨rfl, hb⟩; refine ⟨_, rfl, ?_⟩; have n0_ := Aside0.mk (blk_below (bG BK131.out) hb); have n1_ := Aside0.mk (blk_below (bG BK132.out) hb); have n2_ := Aside0.mk (blk_below (bG BK133.out) hb); have n3_ := Aside0.mk (below_step (eG HB.out) hb); clear BK131; clear BK132; clear BK133; clear HB; have BK131 := n0_; have BK132 := n1_; have BK133 := n2_; have HB := n3_; clear n0_ n1_ n2_ n3_; (try clear hb); (try clear hb2); (try clear hk); (try clear hi)))
     have n0_ := Aside0.mk (blk_drew BK131.out); have n1_ := Aside0.mk (blk_drew BK132.out); have n2_ := Aside0.mk (blk_drew BK133.out); have n3_ := Aside0.mk (below_drew1 HB.out); clear BK131; clear BK132; clear BK133; clear HB; have BK131 := n0_; have BK132 := n1_; have BK133 := n2_; have HB := n3_; clear n0_ n1_ n2_ n3_; refine start_ (n := 8) (S := fun w' => w'.cell? ⟨gb131, 0, none⟩ = some (.int .i64 a0_0) ∧ w'.cell? ⟨gb131, 1, none⟩ = some (.slice A0_1 l0_1.length c0_1)) (ds := []) #[false, false, false, false, false, false, false, false] (by kernel_rfl) rfl rfl ⟨(blk_cell BK131.out 0).trans rfl, (blk_cell BK131.out 1).trans rfl⟩ (fun hHeld => ?_); refine with_tabW tariff_Insert.tab5 tariff_Insert.bits5 (fun HT_ HW_ => ?_)
     generalize w54.drew = w55 at BK131 BK132 BK133 HB hHeld ⊢; refine pure_ (i := 0) (N := some 19) (v := ?_) (a' := ?_) #[true, false, false, false, false, false, false, false] rfl rfl (any_of HT_.out (by kernel_rfl)) (fun _ _ _ h => h) (Or.inl ⟨by rfl, ?_⟩) ?_ ?_; rotate_left
     · intro w'; go_simp; with_reducible rfl
     rotate_left
     · simp only [Act.put, sIA, sC0, sCS, i64_w, i32_w]; rfl
     refine pure_ (i := 2) (N := some 21) (v := ?_) (a' := ?_) #[true, false, true, false, false, false, false, false] rfl rfl (any_of HT_.out (by kernel_rfl)) (fun _ _ _ h => h) (Or.inl ⟨by rfl, ?_⟩) ?_ ?_; rotate_left
     · intro w'; go_simp; with_reducible rfl
     rotate_left
     · simp only [Act.put, sIA, sC0, sCS, i64_w, i32_w]; rfl
     refine take_ (i := 1) (N := some 20) (v := ?_) (a' := ?_) #[true, true, true, false, false, false, false, false] rfl rfl (take_ofW HT_.out HW_.out (by kernel_rfl)) (fun _ _ _ h => h) (Or.inl ⟨by rfl, ?_⟩) hHeld ?_ ?_; rotate_left
     · rintro w' ⟨s0, s1⟩; go_simp; with_reducible rfl
     rotate_left
     · simp only [Act.put, sIA, sC0, sCS, i64_w, i32_w]; rfl
     refine take_ (i := 3) (N := some 22) (v := ?_) (a' := ?_) #[true, true, true, true, false, false, false, false] rfl rfl (take_ofW HT_.out HW_.out (by kernel_rfl)) (fun _ _ _ h => h) (Or.inl ⟨by rfl, ?_⟩) hHeld ?_ ?_; rotate_left
     · rintro w' ⟨s0, s1⟩; go_simp; with_reducible rfl
     rotate_left
     · simp only [Act.put, sIA, sC0, sCS, i64_w, i32_w]; rfl
     refine join_ (σ := Value × Nat) 1 #[true, true, true, true, true, true, true, false] (fun s_ => [(23, s_.1), (6, .pointer (some ⟨s_.2, 0, none⟩)), (24, .agg #[.int .i64 a0_0, s_.1])]) (fun s_ w' => (w'.cell? ⟨gb131, 0, none⟩ = some (.int .i64 a0_0) ∧ w'.cell? ⟨gb131, 1, none⟩ = some (.slice A0_1 l0_1.length c0_1)) ∧ (Kd.R k26 26 w' w.heap.size (fun k_ => k_ ≠ gb132) s_.1 t136) ∧ (w'.heap[gb131]? = some (.cells #[.int .i64 a0_0, .slice A0_1 l0_1.length c0_1] 24 (0, 0))) ∧ (w'.heap[gb132]? = some (.cells #[.int .i64 a1_0, .int .i64 a1_1, .int .i64 a1_2] 26 (0, 0))) ∧ (w'.heap[gb133]? = some (.cells #[.int .i64 0, .slice none 0 0] 24 (0, 0))) ∧ (w'.heap[s_.2]? = some (.cells #[.int .i64 0, .slice none 0 0] 24 (0, 0))) ∧ (w.heap.size ≤ s_.2) ∧ (w.heap.size ≤ s_.2) ∧ (gb131 ≠ s_.2) ∧ (s_.2 ≠ gb131) ∧ (gb132 ≠ s_.2) ∧ (s_.2 ≠ gb132) ∧ (gb133 ≠ s_.2) ∧ (s_.2 ≠ gb133) ∧ (Below w.heap.size w w')) ?_ ?_; rotate_left
     ·
      intro hCont; refine two_ (i := 4) (j := 6) (Ni := some 23) (Nj := some 6) #[true, true, true, true, true, false, false, false] #[true, true, true, true, false, false, true, false] rfl rfl rfl rfl (two_of HT_.out (by kernel_rfl)) (by decide) (by decide) (fun K hK => ?_) (fun K hK => ?_)
      ·
       skip
       refine goes_ Tryz.func38 (by kernel_rfl) rfl #[.slice A0_1 l0_1.length c0_1] (by rfl) rfl rfl (by (try simp only [List.map_toArray, List.map_cons, List.map_nil]); first | done | rfl | (simp only [List.length_drop, List.length_take]; rfl)) ?_; with_reducible refine (slices_Clone26.calls _ _ l0_1 t136 _ ?side1 ?side2 A7.out).mono ?_
       (case side1 => repeat (first | exact (Kd.C_below HR0_1.out HB.out) | (with_reducible refine Kd.C_alloc ?_ _) | (with_reducible refine Kd.C_drewN ?_ _) | (with_reducible refine Kd.C_drew ?_)))
       (case side2 => exact HC0_1.out)
       rintro e w56 ⟨v137, rfl, ho0, hb⟩; refine ⟨_, rfl, ?_⟩; have n0_ := Aside0.mk (Kd.R_lower (Kd.R_newB ho0 (bG BK132.out)) (below_size (eG HB.out))); have n1_ := Aside0.mk (blk_below (bG BK131.out) hb); have n2_ := Aside0.mk (blk_below (bG BK132.out) hb); have n3_ := Aside0.mk (blk_below (bG BK133.out) hb); have n4_ := Aside0.mk (below_step (eG HB.out) hb); clear BK131; clear BK132; clear BK133; clear HB; have HO138 := n0_; have BK131 := n1_; have BK132 := n2_; have BK133 := n3_; have HB := n4_; clear n0_ n1_ n2_ n3_ n4_; (try clear hb)
       (try clear hb2)
       (try clear hk)
       (try clear hi)
       (try clear ho0)
       obtain ⟨Ao57, co57, eo57⟩ := Kd.R_slice HO138.out; (first | subst eo57 | (injection eo57 with f1_ f2_ f3_; have f4_ := f1_.symm; have f5_ := f3_.symm; clear f1_ f2_ f3_; subst f4_; subst f5_))
       refine hK.out _ _ ⟨(blk_cell BK131.out 0).trans rfl, (blk_cell BK131.out 1).trans rfl⟩ (fun hHeld => ?_); clear hK K; refine norm_ (a' := ?_) ?_ ?_; rotate_left
       ·
        show Act.put _ (some 23) _ = _
        simp only [Act.put, sIA, sC0, sCS, i64_w, i32_w]; rfl
       refine pure_ (i := 5) (N := some 24) (v := ?_) (a' := ?_) #[true, true, true, true, true, true, false, false] rfl rfl (any_of HT_.out (by kernel_rfl)) (fun _ _ _ h => h) (Or.inl ⟨by rfl, ?_⟩) ?_ ?_; rotate_left
       · intro w'; go_simp; with_reducible rfl
       rotate_left
       · simp only [Act.put, sIA, sC0, sCS, i64_w, i32_w]; rfl
       refine one_ (i := 6) (N := some 6) #[true, true, true, true, true, true, true, false] rfl rfl (one_of HT_.out (by kernel_rfl)) (by decide) (fun K hK => ?_); refine box_step ?hg (N := 6) ?hd (cs := #[.int .i64 0, .slice none 0 0]) (t := 24) ?hr ?_; (case hd => rfl); (case hg => rfl); (case hr => first | (go_simp; done) | (go_simp; rfl))
       intro gb139 hg w58 hbox hb; have n0_ := Aside0.mk (Kd.R_below (rG HO138.out) hb); have n1_ := Aside0.mk (blk_below (bG BK131.out) hb); have n2_ := Aside0.mk (blk_below (bG BK132.out) hb); have n3_ := Aside0.mk (blk_below (bG BK133.out) hb); have n4_ := Aside0.mk (below_step (eG HB.out) hb); have n5_ := Aside0.mk (hbox); have n6_ := Aside0.mk ((by rw [hg]; exact (below_size (eG HB.out)) : w.heap.size ≤ gb139)); have n7_ := Aside0.mk ((by rw [hg]; exact (below_size (eG HB.out)) : w.heap.size ≤ gb139)); have n8_ := Aside0.mk ((by rw [hg]; exact Nat.ne_of_lt (blk_lt (bG BK131.out)) : gb131 ≠ gb139)); have n9_ := Aside0.mk ((by rw [hg]; exact Nat.ne_of_gt (blk_lt (bG BK131.out)) : gb139 ≠ gb131)); have n10_ := Aside0.mk ((by rw [hg]; exact Nat.ne_of_lt (blk_lt (bG BK132.out)) : gb132 ≠ gb139)); have n11_ := Aside0.mk ((by rw [hg]; exact Nat.ne_of_gt (blk_lt (bG BK132.out)) : gb139 ≠ gb132)); have n12_ := Aside0.mk ((by rw [hg]; exact Nat.ne_of_lt (blk_lt (bG BK133.out)) : gb133 ≠ gb139)); have n13_ := Aside0.mk ((by rw [hg]; exact Nat.ne_of_gt (blk_lt (bG BK133.out)) : gb139 ≠ gb133)); clear HO138; clear BK131; clear BK132; clear BK133; clear HB; have HO138 := n0_; have BK131 := n1_; have BK132 := n2_; have BK133 := n3_; have HB := n4_; have BK139 := n5_; have GW139 := n6_; have GE139 := n7_; have ig139_ := geI GE139
       have NB131_139 := n8_; have NB139_131 := n9_; have NB132_139 := n10_; have NB139_132 := n11_; have NB133_139 := n12_; have NB139_133 := n13_; clear n0_ n1_ n2_ n3_ n4_ n5_ n6_ n7_ n8_ n9_ n10_ n11_ n12_ n13_; clear hb hbox hg; refine hK.out _ _ ⟨(blk_cell BK131.out 0).trans rfl, (blk_cell BK131.out 1).trans rfl⟩ (fun hHeld => ?_); clear hK K; refine norm_ (a' := ?_) ?_ ?_; rotate_left
       ·
        show Act.put _ (some 6) _ = _
        simp only [Act.put, sIA, sC0, sCS, i64_w, i32_w]; rfl
       exact norm_ (by simp only [putAll, Act.put, sIA, sC0, sCS]) (hCont (.slice Ao57 t136.length co57, gb139) _ ⟨hHeld, (by (with_reducible repeat (first | apply Kd.R_alloc | apply Kd.R_drewN | apply Kd.R_drew)); exact Kd.R_mono HO138.out (fun _ hk => hk.2)), (bG BK131.out), (bG BK132.out), (bG BK133.out), (bG BK139.out), GW139.out, GE139.out, NB131_139.out, NB139_131.out, NB132_139.out, NB139_132.out, NB133_139.out, NB139_133.out, (eG HB.out)⟩)
      ·
       skip
       refine box_step ?hg (N := 6) ?hd (cs := #[.int .i64 0, .slice none 0 0]) (t := 24) ?hr ?_; (case hd => rfl); (case hg => rfl); (case hr => first | (go_simp; done) | (go_simp; rfl))
       intro gb139 hg w56 hbox hb; have n0_ := Aside0.mk (blk_below (bG BK131.out) hb); have n1_ := Aside0.mk (blk_below (bG BK132.out) hb); have n2_ := Aside0.mk (blk_below (bG BK133.out) hb); have n3_ := Aside0.mk (below_step (eG HB.out) hb); have n4_ := Aside0.mk (hbox); have n5_ := Aside0.mk ((by rw [hg]; exact (below_size (eG HB.out)) : w.heap.size ≤ gb139)); have n6_ := Aside0.mk ((by rw [hg]; exact (below_size (eG HB.out)) : w.heap.size ≤ gb139)); have n7_ := Aside0.mk ((by rw [hg]; exact Nat.ne_of_lt (blk_lt (bG BK131.out)) : gb131 ≠ gb139)); have n8_ := Aside0.mk ((by rw [hg]; exact Nat.ne_of_gt (blk_lt (bG BK131.out)) : gb139 ≠ gb131)); have n9_ := Aside0.mk ((by rw [hg]; exact Nat.ne_of_lt (blk_lt (bG BK132.out)) : gb132 ≠ gb139)); have n10_ := Aside0.mk ((by rw [hg]; exact Nat.ne_of_gt (blk_lt (bG BK132.out)) : gb139 ≠ gb132)); have n11_ := Aside0.mk ((by rw [hg]; exact Nat.ne_of_lt (blk_lt (bG BK133.out)) : gb133 ≠ gb139)); have n12_ := Aside0.mk ((by rw [hg]; exact Nat.ne_of_gt (blk_lt (bG BK133.out)) : gb139 ≠ gb133)); clear BK131; clear BK132; clear BK133; clear HB; have BK131 := n0_; have BK132 := n1_; have BK133 := n2_; have HB := n3_; have BK139 := n4_; have GW139 := n5_; have GE139 := n6_; have ig139_ := geI GE139
       have NB131_139 := n7_; have NB139_131 := n8_; have NB132_139 := n9_; have NB139_132 := n10_; have NB133_139 := n11_; have NB139_133 := n12_; clear n0_ n1_ n2_ n3_ n4_ n5_ n6_ n7_ n8_ n9_ n10_ n11_ n12_; clear hb hbox hg; refine hK.out _ _ ⟨(blk_cell BK131.out 0).trans rfl, (blk_cell BK131.out 1).trans rfl⟩ (fun hHeld => ?_); clear hK K; refine norm_ (a' := ?_) ?_ ?_; rotate_left
       ·
        show Act.put _ (some 6) _ = _
        simp only [Act.put, sIA, sC0, sCS, i64_w, i32_w]; rfl
       refine one_ (i := 4) (N := some 23) #[true, true, true, true, true, false, true, false] rfl rfl (one_of HT_.out (by kernel_rfl)) (by decide) (fun K hK => ?_); refine goes_ Tryz.func38 (by kernel_rfl) rfl #[.slice A0_1 l0_1.length c0_1] (by rfl) rfl rfl (by (try simp only [List.map_toArray, List.map_cons, List.map_nil]); first | done | rfl | (simp only [List.length_drop, List.length_take]; rfl)) ?_; with_reducible refine (slices_Clone26.calls _ _ l0_1 t136 _ ?side1 ?side2 A7.out).mono ?_
       (case side1 => repeat (first | exact (Kd.C_below HR0_1.out HB.out) | (with_reducible refine Kd.C_alloc ?_ _) | (with_reducible refine Kd.C_drewN ?_ _) | (with_reducible refine Kd.C_drew ?_)))
       (case side2 => exact HC0_1.out)
       rintro e w57 ⟨v137, rfl, ho0, hb⟩; refine ⟨_, rfl, ?_⟩; have n0_ := Aside0.mk (Kd.R_lower (Kd.R_newB ho0 (bG BK132.out)) (below_size (eG HB.out))); have n1_ := Aside0.mk (blk_below (bG BK131.out) hb); have n2_ := Aside0.mk (blk_below (bG BK132.out) hb); have n3_ := Aside0.mk (blk_below (bG BK133.out) hb); have n4_ := Aside0.mk (blk_below (bG BK139.out) hb); have n5_ := Aside0.mk (below_step (eG HB.out) hb); clear BK131; clear BK132; clear BK133; clear BK139; clear HB; have HO138 := n0_; have BK131 := n1_; have BK132 := n2_; have BK133 := n3_; have BK139 := n4_; have HB := n5_; clear n0_ n1_ n2_ n3_ n4_ n5_; (try clear hb)
       (try clear hb2)
       (try clear hk)
       (try clear hi)
       (try clear ho0)
       obtain ⟨Ao58, co58, eo58⟩ := Kd.R_slice HO138.out; (first | subst eo58 | (injection eo58 with f1_ f2_ f3_; have f4_ := f1_.symm; have f5_ := f3_.symm; clear f1_ f2_ f3_; subst f4_; subst f5_))
       refine hK.out _ _ ⟨(blk_cell BK131.out 0).trans rfl, (blk_cell BK131.out 1).trans rfl⟩ (fun hHeld => ?_); clear hK K; refine norm_ (a' := ?_) ?_ ?_; rotate_left
       ·
        show Act.put _ (some 23) _ = _
        simp only [Act.put, sIA, sC0, sCS, i64_w, i32_w]; rfl
       refine pure_ (i := 5) (N := some 24) (v := ?_) (a' := ?_) #[true, true, true, true, true, true, true, false] rfl rfl (any_of HT_.out (by kernel_rfl)) (fun _ _ _ h => h) (Or.inl ⟨by rfl, ?_⟩) ?_ ?_; rotate_left
       · intro w'; go_simp; with_reducible rfl
       rotate_left
       · simp only [Act.put, sIA, sC0, sCS, i64_w, i32_w]; rfl
       exact norm_ (by simp only [putAll, Act.put, sIA, sC0, sCS]) (hCont (.slice Ao58 t136.length co58, gb139) _ ⟨hHeld, (by (with_reducible repeat (first | apply Kd.R_alloc | apply Kd.R_drewN | apply Kd.R_drew)); exact Kd.R_mono HO138.out (fun _ hk => hk.2)), (bG BK131.out), (bG BK132.out), (bG BK133.out), (bG BK139.out), GW139.out, GE139.out, NB131_139.out, NB139_131.out, NB132_139.out, NB139_132.out, NB133_139.out, NB139_133.out, (eG HB.out)⟩)
     rintro ⟨v137, gb139⟩ w59 ⟨hS_, h0_, h1_, h2_, h3_, h4_, h5_, h6_, h7_, h8_, h9_, h10_, h11_, h12_, h13_⟩; have n0_ : Aside0 (Kd.R k26 26 w59 w.heap.size (fun k_ => k_ ≠ gb132) v137 t136) := ⟨h0_⟩; have n1_ : Aside0 (w59.heap[gb131]? = some (.cells #[.int .i64 a0_0, .slice A0_1 l0_1.length c0_1] 24 (0, 0))) := ⟨h1_⟩; have n2_ : Aside0 (w59.heap[gb132]? = some (.cells #[.int .i64 a1_0, .int .i64 a1_1, .int .i64 a1_2] 26 (0, 0))) := ⟨h2_⟩; have n3_ : Aside0 (w59.heap[gb133]? = some (.cells #[.int .i64 0, .slice none 0 0] 24 (0, 0))) := ⟨h3_⟩; have n4_ : Aside0 (w59.heap[gb139]? = some (.cells #[.int .i64 0, .slice none 0 0] 24 (0, 0))) := ⟨h4_⟩; have n5_ : Aside0 (w.heap.size ≤ gb139) := ⟨h5_⟩; have n6_ : Aside0 (w.heap.size ≤ gb139) := ⟨h6_⟩; have n7_ : Aside0 (gb131 ≠ gb139) := ⟨h7_⟩; have n8_ : Aside0 (gb139 ≠ gb131) := ⟨h8_⟩; have n9_ : Aside0 (gb132 ≠ gb139) := ⟨h9_⟩; have n10_ : Aside0 (gb139 ≠ gb132) := ⟨h10_⟩; have n11_ : Aside0 (gb133 ≠ gb139) := ⟨h11_⟩; have n12_ : Aside0 (gb139 ≠ gb133) := ⟨h12_⟩; have n13_ : Aside0 (Below w.heap.size w w59) := ⟨h13_⟩; clear BK131; clear BK132; clear BK133; clear HB; clear h0_ h1_ h2_ h3_ h4_ h5_ h6_ h7_ h8_ h9_ h10_ h11_ h12_ h13_; have HO138 := n0_; have BK131 := n1_; have BK132 := n2_; have BK133 := n3_; have BK139 := n4_; have GW139 := n5_; have GE139 := n6_; have ig139_ := geI GE139
     have NB131_139 := n7_; have NB139_131 := n8_; have NB132_139 := n9_; have NB139_132 := n10_; have NB133_139 := n11_; have NB139_133 := n12_; have HB := n13_; clear n0_ n1_ n2_ n3_ n4_ n5_ n6_ n7_ n8_ n9_ n10_ n11_ n12_ n13_; have hHeld : w59.cell? ⟨gb131, 0, none⟩ = some (.int .i64 a0_0) ∧ w59.cell? ⟨gb131, 1, none⟩ = some (.slice A0_1 l0_1.length c0_1) := hS_; obtain ⟨Ao60, co60, eo60⟩ := Kd.R_slice HO138.out; (first | subst eo60 | (injection eo60 with f1_ f2_ f3_; have f4_ := f1_.symm; have f5_ := f3_.symm; clear f1_ f2_ f3_; subst f4_; subst f5_))
     refine norm_ (a' := ?_) ?_ ?_; rotate_left
     · simp only [putAll, Act.put, sIA, sC0, sCS]; rfl
     refine one_ (i := 7) (N := none) #[true, true, true, true, true, true, true, true] rfl rfl (one_of HT_.out (by kernel_rfl)) (by decide) (fun K hK => ?_); have hs61 : w59.cell? ⟨gb139, 0, none⟩ = some (.int .i64 0) := (blk_cell BK139.out 0).trans rfl; have hfs61 := blk_frozen BK139.out 0; have hns61_0 := NB131_139.out; have hns61_1 := NB132_139.out; have hns61_2 := NB133_139.out; have hms61_0 := NB139_131.out; have hms61_1 := NB139_132.out; have hms61_2 := NB139_133.out; have hs62 : w59.cell? ⟨gb139, 1, none⟩ = some (.slice none 0 0) := (blk_cell BK139.out 1).trans rfl; have hfs62 := blk_frozen BK139.out 1; have hns62_0 := NB131_139.out; have hns62_1 := NB132_139.out; have hns62_2 := NB133_139.out; have hms62_0 := NB139_131.out; have hms62_1 := NB139_132.out; have hms62_2 := NB139_133.out; refine skip_ (w1 := ?_) (by rfl) rfl ?_ ?_; rotate_left
     · go_simp; rfl
     refine hK.out _ _ ⟨((cell_far (p := ⟨gb139, _, none⟩) NB131_139.out _).trans (((cell_far (p := ⟨gb139, _, none⟩) NB131_139.out _).trans (hHeld.1)))), ((cell_far (p := ⟨gb139, _, none⟩) NB131_139.out _).trans (((cell_far (p := ⟨gb139, _, none⟩) NB131_139.out _).trans (hHeld.2))))⟩ (fun hHeld => ?_); clear hK K; refine done_ (done_of HT_.out (by kernel_rfl)) ?_; have hnb63 := NB139_131.out; have hnc63 := NB131_139.out; have hnb64 := NB139_132.out; have hnc64 := NB132_139.out; have hnb65 := NB139_133.out; have hnc65 := NB133_139.out; have hcz66_0 : w59.cell? ⟨gb139, 0, none⟩ = some (.int .i64 0) := (blk_cell BK139.out 0).trans rfl; have hcz66_1 : w59.cell? ⟨gb139, 1, none⟩ = some (.slice none 0 0) := (blk_cell BK139.out 1).trans rfl; have hfz66_0 := blk_frozen BK139.out 0; have hfz66_1 := blk_frozen BK139.out 1; have hcz67_0 : w59.cell? ⟨gb132, 0, none⟩ = some (.int .i64 a1_0) := (blk_cell BK132.out 0).trans rfl; have hcz67_1 : w59.cell? ⟨gb132, 1, none⟩ = some (.int .i64 a1_1) := (blk_cell BK132.out 1).trans rfl; have hcz67_2 : w59.cell? ⟨gb132, 2, none⟩ = some (.int .i64 a1_2) := (blk_cell BK132.out 2).trans rfl; have hfz67_0 := blk_frozen BK132.out 0; have hfz67_1 := blk_frozen BK132.out 1; have hfz67_2 := blk_frozen BK132.out 2; try go_wp2_with (first | ((with_reducible refine gate_callee (f := 42) rfl ?_); refine goesL_ (some 29) rfl rfl Tryz.func42 (by kernel_rfl) rfl #[.slice Ao60 t136.length co60, .agg #[.int .i64 a1_0, .int .i64 a1_1, .int .i64 a1_2], .func (.func 37) #[] #[]] rfl (by (try simp only [List.map_toArray, List.map_cons, List.map_nil]); first | done | rfl | (simp only [List.length_drop, List.length_take]; rfl)) ?_; (with_reducible refine (api_Rate_42_at_37.calls k _ _ t136 a1_0 a1_1 a1_2 t140 false _ ?side1 ?side2 A8.out).mono ?_); (case side1 => refine (Kd.R_reads' (e := 26) (base := w.heap.size) (ok := fun k_ => k_ ≠ gb132) (n := t136.length) (c := co60) ?_).2.2; exact (by (with_reducible repeat (first | apply Kd.R_alloc | apply Kd.R_drewN | apply Kd.R_drew)); exact (Kd.R_mono (Kd.R_far (p := ⟨gb139, 1, none⟩) (Kd.R_far (p := ⟨gb139, 0, none⟩) (Kd.R_types HO138.out BK139.out (by decide)) (fun _ hk => hk.2) (.int .i64 a0_0)) (fun _ hk => hk.2) (.slice Ao60 t136.length co60)) (fun _ h_ => h_.1)))); (case side2 => exact (Kd.R_reads' HO138.out).2.1); rintro e w68 ⟨rfl, hb⟩; refine ⟨_, rfl, ?_⟩; have n0_ := Aside0.mk (Kd.R_below (by (with_reducible repeat (first | apply Kd.R_alloc | apply Kd.R_drewN | apply Kd.R_drew)); exact (Kd.R_mono (Kd.R_far (p := ⟨gb139, 1, none⟩) (Kd.R_far (p := ⟨gb139, 0, none⟩) (Kd.R_types HO138.out BK139.out (by decide)) (fun _ hk => hk.2) (.int .i64 a0_0)) (fun _ hk => hk.2) (.slice Ao60 t136.length co60)) (fun _ h_ => h_.1))) hb); have n1_ := Aside0.mk (blk_below (g := gb131) (o := .cells #[.int .i64 a0_0, .slice A0_1 l0_1.length c0_1] 24 (0, 0)) (by (with_reducible repeat first | apply bN | apply bD | apply bA); refine blk_far ?_ NB131_139.out _; (with_reducible repeat first | apply bN | apply bD | apply bA); refine blk_far ?_ NB131_139.out _; (with_reducible repeat first | apply bN | apply bD | apply bA); exact BK131.out) hb); have n2_ := Aside0.mk (blk_below (g := gb132) (o := .cells #[.int .i64 a1_0, .int .i64 a1_1, .int .i64 a1_2] 26 (0, 0)) (by (with_reducible repeat first | apply bN | apply bD | apply bA); refine blk_far ?_ NB132_139.out _; (with_reducible repeat first | apply bN | apply bD | apply bA); refine blk_far ?_ NB132_139.out _; (with_reducible repeat first | apply bN | apply bD | apply bA); exact BK132.out) hb); have n3_ := Aside0.mk (blk_below (g := gb133) (o := .cells #[.int .i64 0, .slice none 0 0] 24 (0, 0)) (by (with_reducible repeat first | apply bN | apply bD | apply bA); refine blk_far ?_ NB133_139.out _; (with_reducible repeat first | apply bN | apply bD | apply bA); refine blk_far ?_ NB133_139.out _; (with_reducible repeat first | apply bN | apply bD | apply bA); exact BK133.out) hb); have n4_ := Aside0.mk (blk_below (g := gb139) (o := .cells #[.int .i64 a0_0, .slice Ao60 t136.length co60] 24 (0, 0)) (by (with_reducible repeat first | apply bN | apply bD | apply bA); refine blk_put (cs := #[.int .i64 a0_0, .slice none 0 0]) ?_ 1 _ rfl; (with_reducible repeat first | apply bN | apply bD | apply bA); refine blk_put (cs := #[.int .i64 0, .slice none 0 0]) ?_ 0 _ rfl; (with_reducible repeat first | apply bN | apply bD | apply bA); exact BK139.out) hb); have n5_ := Aside0.mk (below_step (eG HB.out) hb); clear HO138; clear BK131; clear BK132; clear BK133; clear BK139; clear HB; have HO138 := n0_; have BK131 := n1_; have BK132 := n2_; have BK133 := n3_; have BK139 := n4_; have HB := n5_; clear n0_ n1_ n2_ n3_ n4_ n5_; (try clear hb); (try clear hb2); (try clear hk); (try clear hi); have hcz69_0 : w68.cell? ⟨gb139, 0, none⟩ = some (.int .i64 a0_0) := (blk_cell BK139.out 0).trans rfl; have hcz69_1 : w68.cell? ⟨gb139, 1, none⟩ = some (.slice Ao60 t136.length co60) := (blk_cell BK139.out 1).trans rfl; have hfz69_0 := blk_frozen BK139.out 0; have hfz69_1 := blk_frozen BK139.out 1; have hcz70_0 : w68.cell? ⟨gb132, 0, none⟩ = some (.int .i64 a1_0) := (blk_cell BK132.out 0).trans rfl; have hcz70_1 : w68.cell? ⟨gb132, 1, none⟩ = some (.int .i64 a1_1) := (blk_cell BK132.out 1).trans rfl; have hcz70_2 : w68.cell? ⟨gb132, 2, none⟩ = some (.int .i64 a1_2) := (blk_cell BK132.out 2).trans rfl; have hfz70_0 := blk_frozen BK132.out 0; have hfz70_1 := blk_frozen BK132.out 1; have hfz70_2 := blk_frozen BK132.out 2) | ((with_reducible refine gate_dst (N := 43) rfl ?_); refine Kd.R_lit k26 _ 26 ?hg (N := 43) ?hd (xs := ([(⟨a1_0, a1_1, a1_2⟩ : S26)] : List (S26))) (inner := [.int .i64 a1_0, .int .i64 a1_1, .int .i64 a1_2]) (ok := fun _ => True) (okp := fun _ => True) ?hr ?hp (fun _ hk => hk) trivial (Below.refl _ _) (Nat.le_refl _) (by simp) ?_; (case hd => rfl); (case hg => rfl); (case hr => first | (go_simp; done) | (go_simp; rfl)); (case hp => exact (Reps.c3 (show Kd.M k26 _ _ _ (⟨a1_0, a1_1, a1_2⟩ : S26) [.int .i64 a1_0, .int .i64 a1_1, .int .i64 a1_2] from (k26_mkM _ _ _ (⟨a1_0, a1_1, a1_2⟩ : S26) )) (Reps.none _ _))); intro v144 w71 ho72 hb hg_ hnew_; clear hg_ hnew_; (first | rw [← Ny143.out] at ho72 | (simp only [Int.reduceToNat] at ho72; rw [← Ny143.out] at ho72)); have n0_ := Aside0.mk (Kd.R_elder' (rG HO138.out) (Kd.R_base ho72) hb); have n1_ := Aside0.mk (Kd.R_lower (Kd.R_newB (Kd.R_new' ho72 (Kd.R_lt (rG HO138.out))) (bG BK132.out)) (below_size (eG HB.out))); have n2_ := Aside0.mk (blk_below (bG BK131.out) hb); have n3_ := Aside0.mk (blk_below (bG BK132.out) hb); have n4_ := Aside0.mk (blk_below (bG BK133.out) hb); have n5_ := Aside0.mk (blk_below (bG BK139.out) hb); have n6_ := Aside0.mk (below_step (eG HB.out) hb); clear HO138; clear BK131; clear BK132; clear BK133; clear BK139; clear HB; have HO138 := n0_; have HO145 := n1_; have BK131 := n2_; have BK132 := n3_; have BK133 := n4_; have BK139 := n5_; have HB := n6_; clear n0_ n1_ n2_ n3_ n4_ n5_ n6_; clear hb ho72; obtain ⟨Ao73, co73, eo73⟩ := Kd.R_slice HO145.out; subst eo73) | ((with_reducible refine gate_callee (f := 43) rfl ?_); refine goesL_ (some 44) rfl rfl Tryz.func43 (by kernel_rfl) rfl #[.slice Ao60 t136.length co60, .int .i64 t140, .slice Ao73 y143.length co73] rfl (by (try simp only [List.map_toArray, List.map_cons, List.map_nil]); first | done | rfl | (simp only [List.length_drop, List.length_take]; rfl)) ?_; (refine (slices_Insert26.own HO138.out HO145.out (fun k hk => by first | exact hk.1.2 | exact hk.2 | exact hk.1.1.2) (below_size HB.out) A43.out).mono ?_); rintro e w74 ⟨v147, rfl, ho0, hgr⟩; refine ⟨_, rfl, ?_⟩; have n0_ := Aside0.mk ho0; have m0_ := Aside0.mk (blk_grown BK131.out hgr (Kd.R_ne HO138.out BK131.out (by decide))); have m1_ := Aside0.mk (blk_grown BK132.out hgr (fun e => by have h_ := HO138.out.1 _ e.symm; first | exact h_ rfl | exact h_.1 rfl | exact h_.1.1 rfl)); have m2_ := Aside0.mk (blk_grown BK133.out hgr (Kd.R_ne HO138.out BK133.out (by decide))); have m3_ := Aside0.mk (blk_grown BK139.out hgr (Kd.R_ne HO138.out BK139.out (by decide))); have n1_ := Aside0.mk (HB.out.grown hgr (below_size HB.out) (fun k e => own_base (R26_own HO138.out) k e)); clear HO138; clear HO145; clear BK131; clear BK132; clear BK133; clear BK139; clear HB; have HO148 := n0_; have BK131 := m0_; have BK132 := m1_; have BK133 := m2_; have BK139 := m3_; have HB := n1_; clear n0_ n1_; (try clear ho0); clear hgr; obtain ⟨Ao75, co75, eo75⟩ := Kd.R_slice HO148.out; subst eo75; have hcz76_0 : w74.cell? ⟨gb139, 0, none⟩ = some (.int .i64 a0_0) := (blk_cell BK139.out 0).trans rfl; have hcz76_1 : w74.cell? ⟨gb139, 1, none⟩ = some (.slice Ao60 t136.length co60) := (blk_cell BK139.out 1).trans rfl; have hfz76_0 := blk_frozen BK139.out 0; have hfz76_1 := blk_frozen BK139.out 1; have hcz77_0 : w74.cell? ⟨gb133, 0, none⟩ = some (.int .i64 0) := (blk_cell BK133.out 0).trans rfl; have hcz77_1 : w74.cell? ⟨gb133, 1, none⟩ = some (.slice none 0 0) := (blk_cell BK133.out 1).trans rfl; have hfz77_0 := blk_frozen BK133.out 0; have hfz77_1 := blk_frozen BK133.out 1))
     refine bodyPost_ret (results_ct rfl _ _ gb133 24 #[.int .i64 0, .slice none 0 0] (0, 0) _ rfl (by (with_reducible repeat first | apply bN | apply bD | apply bA); refine blk_put (cs := #[.int .i64 0, .slice none 0 0]) ?_ 1 _ rfl; (with_reducible repeat first | apply bN | apply bD | apply bA); refine blk_put (cs := #[.int .i64 0, .slice none 0 0]) ?_ 0 _ rfl; (with_reducible repeat first | apply bN | apply bD | apply bA); refine blk_far ?_ NB133_139.out _; (with_reducible repeat first | apply bN | apply bD | apply bA); exact BK133.out) Tryz.underlying24 rfl (by kernel_rfl)) rfl ?_; exact ⟨_, by first | rfl | (simp [errW_none, errW_some] <;> rfl) | (simp [*, errW_none, errW_some] <;> rfl), by first | exact Kd.R_nil _ _ _ _ _ | exact Kd.N_nil _ _ _ _ _ | exact Kd.V_nil _ _ _ _ _ | exact Kd.Q_nil _ _ _ _ _ | exact Kd.S_nil _ _ _ _ _, eG HB.out⟩
    ·
     rw [if_neg c44] at H; have c44b0 : decide (64 < (t146.length : Int)) = false := decide_eq_false c44; have c44b1 : decide (64 < t146.length) = false := decide_eq_false (by omega); clear c44; simp only [Option.some.injEq, Prod.mk.injEq] at H; obtain ⟨rfl, rfl, rfl⟩ := H; go_enter Tryz.func16, Tryz.ntmps16
     try go_wp2_with (first | ((with_reducible refine gate_dst (N := 2) rfl ?_); refine box_event ?hg (N := 2) ?hd (cs := #[.int .i64 a0_0, .slice A0_1 l0_1.length c0_1]) (t := 24) ?hr ?_; (case hd => rfl); (case hg => rfl); (case hr => first | (go_simp; done) | (go_simp; rfl)); intro gb131 hg w78 hbox hb; have n0_ := Aside0.mk (below_step (eG HB.out) hb); have n1_ := Aside0.mk (hbox); have n2_ := Aside0.mk ((by rw [hg]; exact (below_size (eG HB.out)) : w.heap.size ≤ gb131)); have n3_ := Aside0.mk ((by rw [hg]; exact (below_size (eG HB.out)) : w.heap.size ≤ gb131)); clear HB; have HB := n0_; have BK131 := n1_; have GW131 := n2_; have GE131 := n3_; have ig131_ := geI GE131; clear n0_ n1_ n2_ n3_; clear hb hbox hg) | ((with_reducible refine gate_dst (N := 3) rfl ?_); refine box_event ?hg (N := 3) ?hd (cs := #[.int .i64 a1_0, .int .i64 a1_1, .int .i64 a1_2]) (t := 26) ?hr ?_; (case hd => rfl); (case hg => rfl); (case hr => first | (go_simp; done) | (go_simp; rfl)); intro gb132 hg w79 hbox hb; have n0_ := Aside0.mk (blk_below (bG BK131.out) hb); have n1_ := Aside0.mk (below_step (eG HB.out) hb); have n2_ := Aside0.mk (hbox); have n3_ := Aside0.mk ((by rw [hg]; exact (below_size (eG HB.out)) : w.heap.size ≤ gb132)); have n4_ := Aside0.mk ((by rw [hg]; exact (below_size (eG HB.out)) : w.heap.size ≤ gb132)); have n5_ := Aside0.mk ((by rw [hg]; exact Nat.ne_of_lt (blk_lt (bG BK131.out)) : gb131 ≠ gb132)); have n6_ := Aside0.mk ((by rw [hg]; exact Nat.ne_of_gt (blk_lt (bG BK131.out)) : gb132 ≠ gb131)); clear BK131; clear HB; have BK131 := n0_; have HB := n1_; have BK132 := n2_; have GW132 := n3_; have GE132 := n4_; have ig132_ := geI GE132; have NB131_132 := n5_; have NB132_131 := n6_; clear n0_ n1_ n2_ n3_ n4_ n5_ n6_; clear hb hbox hg) | ((with_reducible refine gate_dst (N := 4) rfl ?_); refine box_event ?hg (N := 4) ?hd (cs := #[.int .i64 0, .slice none 0 0]) (t := 24) ?hr ?_; (case hd => rfl); (case hg => rfl); (case hr => first | (go_simp; done) | (go_simp; rfl)); intro gb133 hg w80 hbox hb; have n0_ := Aside0.mk (blk_below (bG BK131.out) hb); have n1_ := Aside0.mk (blk_below (bG BK132.out) hb); have n2_ := Aside0.mk (below_step (eG HB.out) hb); have n3_ := Aside0.mk (hbox); have n4_ := Aside0.mk ((by rw [hg]; exact (below_size (eG HB.out)) : w.heap.size ≤ gb133)); have n5_ := Aside0.mk ((by rw [hg]; exact (below_size (eG HB.out)) : w.heap.size ≤ gb133)); have n6_ := Aside0.mk ((by rw [hg]; exact Nat.ne_of_lt (blk_lt (bG BK131.out)) : gb131 ≠ gb133)); have n7_ := Aside0.mk ((by rw [hg]; exact Nat.ne_of_gt (blk_lt (bG BK131.out)) : gb133 ≠ gb131)); have n8_ := Aside0.mk ((by rw [hg]; exact Nat.ne_of_lt (blk_lt (bG BK132.out)) : gb132 ≠ gb133)); have n9_ := Aside0.mk ((by rw [hg]; exact Nat.ne_of_gt (blk_lt (bG BK132.out)) : gb133 ≠ gb132)); clear BK131; clear BK132; clear HB; have BK131 := n0_; have BK132 := n1_; have HB := n2_; have BK133 := n3_; have GW133 := n4_; have GE133 := n5_; have ig133_ := geI GE133; have NB131_133 := n6_; have NB133_131 := n7_; have NB132_133 := n8_; have NB133_132 := n9_; clear n0_ n1_ n2_ n3_ n4_ n5_ n6_ n7_ n8_ n9_; clear hb hbox hg; have hnb81 := NB131_132.out; have hnc81 := NB132_131.out; have hnb82 := NB131_133.out; have hnc82 := NB133_131.out; have hcz83_0 : w80.cell? ⟨gb131, 0, none⟩ = some (.int .i64 a0_0) := (blk_cell BK131.out 0).trans rfl; have hcz83_1 : w80.cell? ⟨gb131, 1, none⟩ = some (.slice A0_1 l0_1.length c0_1) := (blk_cell BK131.out 1).trans rfl; have hfz83_0 := blk_frozen BK131.out 0; have hfz83_1 := blk_frozen BK131.out 1) | ((with_reducible refine gate_callee (f := 41) rfl ?_); refine goesL_ (some 11) rfl rfl Tryz.func41 (by kernel_rfl) rfl #[.agg #[.int .i64 a0_0, .slice A0_1 l0_1.length c0_1]] rfl (by (try simp only [List.map_toArray, List.map_cons, List.map_nil]); first | done | rfl | (simp only [List.length_drop, List.length_take]; rfl)) ?_; (with_reducible refine (tariff_right.calls k a0_0 _ _ l0_1 true _ ?side1 ?side2 A3.out).mono ?_); (case side1 => repeat (first | exact (Kd.C_below HR0_1.out HB.out) | (with_reducible refine Kd.C_alloc ?_ _) | (with_reducible refine Kd.C_drewN ?_ _) | (with_reducible refine Kd.C_drew ?_))); (case side2 => exact HC0_1.out); rintro e w84 ⟨rfl, hb⟩; refine ⟨_, rfl, ?_⟩; have n0_ := Aside0.mk (blk_below (bG BK131.out) hb); have n1_ := Aside0.mk (blk_below (bG BK132.out) hb); have n2_ := Aside0.mk (blk_below (bG BK133.out) hb); have n3_ := Aside0.mk (below_step (eG HB.out) hb); clear BK131; clear BK132; clear BK133; clear HB; have BK131 := n0_; have BK132 := n1_; have BK133 := n2_; have HB := n3_; clear n0_ n1_ n2_ n3_; (try clear hb); (try clear hb2); (try clear hk); (try clear hi); have hnb85 := NB132_133.out; have hnc85 := NB133_132.out; have hcz86_0 : w84.cell? ⟨gb132, 0, none⟩ = some (.int .i64 a1_0) := (blk_cell BK132.out 0).trans rfl; have hcz86_1 : w84.cell? ⟨gb132, 1, none⟩ = some (.int .i64 a1_1) := (blk_cell BK132.out 1).trans rfl; have hcz86_2 : w84.cell? ⟨gb132, 2, none⟩ = some (.int .i64 a1_2) := (blk_cell BK132.out 2).trans rfl; have hfz86_0 := blk_frozen BK132.out 0; have hfz86_1 := blk_frozen BK132.out 1; have hfz86_2 := blk_frozen BK132.out 2) | ((with_reducible refine gate_callee (f := 36) rfl ?_); refine goesL_ (some 16) rfl rfl Tryz.func36 (by kernel_rfl) rfl #[.agg #[.int .i64 a1_0, .int .i64 a1_1, .int .i64 a1_2]] rfl (by (try simp only [List.map_toArray, List.map_cons, List.map_nil]); first | done | rfl | (simp only [List.length_drop, List.length_take]; rfl)) ?_; (with_reducible refine (tariff_ranged.calls a1_0 a1_1 a1_2 true _ A5.out).mono ?_); rintro e w87 ⟨rfl, hb⟩; refine ⟨_, rfl, ?_⟩; have n0_ := Aside0.mk (blk_below (bG BK131.out) hb); have n1_ := Aside0.mk (blk_below (bG BK132.out) hb); have n2_ := Aside0.mk (blk_below (bG BK133.out) hb); have n3_ := Aside0.mk (below_step (eG HB.out) hb); clear BK131; clear BK132; clear BK133; clear HB; have BK131 := n0_; have BK132 := n1_; have BK133 := n2_; have HB := n3_; clear n0_ n1_ n2_ n3_; (try clear hb); (try clear hb2); (try clear hk); (try clear hi)))
     have n0_ := Aside0.mk (blk_drew BK131.out); have n1_ := Aside0.mk (blk_drew BK132.out); have n2_ := Aside0.mk (blk_drew BK133.out); have n3_ := Aside0.mk (below_drew1 HB.out); clear BK131; clear BK132; clear BK133; clear HB; have BK131 := n0_; have BK132 := n1_; have BK133 := n2_; have HB := n3_; clear n0_ n1_ n2_ n3_; refine start_ (n := 8) (S := fun w' => w'.cell? ⟨gb131, 0, none⟩ = some (.int .i64 a0_0) ∧ w'.cell? ⟨gb131, 1, none⟩ = some (.slice A0_1 l0_1.length c0_1)) (ds := []) #[false, false, false, false, false, false, false, false] (by kernel_rfl) rfl rfl ⟨(blk_cell BK131.out 0).trans rfl, (blk_cell BK131.out 1).trans rfl⟩ (fun hHeld => ?_); refine with_tabW tariff_Insert.tab5 tariff_Insert.bits5 (fun HT_ HW_ => ?_)
     generalize w87.drew = w88 at BK131 BK132 BK133 HB hHeld ⊢; refine pure_ (i := 0) (N := some 19) (v := ?_) (a' := ?_) #[true, false, false, false, false, false, false, false] rfl rfl (any_of HT_.out (by kernel_rfl)) (fun _ _ _ h => h) (Or.inl ⟨by rfl, ?_⟩) ?_ ?_; rotate_left
     · intro w'; go_simp; with_reducible rfl
     rotate_left
     · simp only [Act.put, sIA, sC0, sCS, i64_w, i32_w]; rfl
     refine pure_ (i := 2) (N := some 21) (v := ?_) (a' := ?_) #[true, false, true, false, false, false, false, false] rfl rfl (any_of HT_.out (by kernel_rfl)) (fun _ _ _ h => h) (Or.inl ⟨by rfl, ?_⟩) ?_ ?_; rotate_left
     · intro w'; go_simp; with_reducible rfl
     rotate_left
     · simp only [Act.put, sIA, sC0, sCS, i64_w, i32_w]; rfl
     refine take_ (i := 1) (N := some 20) (v := ?_) (a' := ?_) #[true, true, true, false, false, false, false, false] rfl rfl (take_ofW HT_.out HW_.out (by kernel_rfl)) (fun _ _ _ h => h) (Or.inl ⟨by rfl, ?_⟩) hHeld ?_ ?_; rotate_left
     · rintro w' ⟨s0, s1⟩; go_simp; with_reducible rfl
     rotate_left
     · simp only [Act.put, sIA, sC0, sCS, i64_w, i32_w]; rfl
     refine take_ (i := 3) (N := some 22) (v := ?_) (a' := ?_) #[true, true, true, true, false, false, false, false] rfl rfl (take_ofW HT_.out HW_.out (by kernel_rfl)) (fun _ _ _ h => h) (Or.inl ⟨by rfl, ?_⟩) hHeld ?_ ?_; rotate_left
     · rintro w' ⟨s0, s1⟩; go_simp; with_reducible rfl
     rotate_left
     · simp only [Act.put, sIA, sC0, sCS, i64_w, i32_w]; rfl
     refine join_ (σ := Value × Nat) 1 #[true, true, true, true, true, true, true, false] (fun s_ => [(23, s_.1), (6, .pointer (some ⟨s_.2, 0, none⟩)), (24, .agg #[.int .i64 a0_0, s_.1])]) (fun s_ w' => (w'.cell? ⟨gb131, 0, none⟩ = some (.int .i64 a0_0) ∧ w'.cell? ⟨gb131, 1, none⟩ = some (.slice A0_1 l0_1.length c0_1)) ∧ (Kd.R k26 26 w' w.heap.size (fun k_ => k_ ≠ gb132) s_.1 t136) ∧ (w'.heap[gb131]? = some (.cells #[.int .i64 a0_0, .slice A0_1 l0_1.length c0_1] 24 (0, 0))) ∧ (w'.heap[gb132]? = some (.cells #[.int .i64 a1_0, .int .i64 a1_1, .int .i64 a1_2] 26 (0, 0))) ∧ (w'.heap[gb133]? = some (.cells #[.int .i64 0, .slice none 0 0] 24 (0, 0))) ∧ (w'.heap[s_.2]? = some (.cells #[.int .i64 0, .slice none 0 0] 24 (0, 0))) ∧ (w.heap.size ≤ s_.2) ∧ (w.heap.size ≤ s_.2) ∧ (gb131 ≠ s_.2) ∧ (s_.2 ≠ gb131) ∧ (gb132 ≠ s_.2) ∧ (s_.2 ≠ gb132) ∧ (gb133 ≠ s_.2) ∧ (s_.2 ≠ gb133) ∧ (Below w.heap.size w w')) ?_ ?_; rotate_left
     ·
      intro hCont; refine two_ (i := 4) (j := 6) (Ni := some 23) (Nj := some 6) #[true, true, true, true, true, false, false, false] #[true, true, true, true, false, false, true, false] rfl rfl rfl rfl (two_of HT_.out (by kernel_rfl)) (by decide) (by decide) (fun K hK => ?_) (fun K hK => ?_)
      ·
       skip
       refine goes_ Tryz.func38 (by kernel_rfl) rfl #[.slice A0_1 l0_1.length c0_1] (by rfl) rfl rfl (by (try simp only [List.map_toArray, List.map_cons, List.map_nil]); first | done | rfl | (simp only [List.length_drop, List.length_take]; rfl)) ?_; with_reducible refine (slices_Clone26.calls _ _ l0_1 t136 _ ?side1 ?side2 A7.out).mono ?_
       (case side1 => repeat (first | exact (Kd.C_below HR0_1.out HB.out) | (with_reducible refine Kd.C_alloc ?_ _) | (with_reducible refine Kd.C_drewN ?_ _) | (with_reducible refine Kd.C_drew ?_)))
       (case side2 => exact HC0_1.out)
       rintro e w89 ⟨v137, rfl, ho0, hb⟩; refine ⟨_, rfl, ?_⟩; have n0_ := Aside0.mk (Kd.R_lower (Kd.R_newB ho0 (bG BK132.out)) (below_size (eG HB.out))); have n1_ := Aside0.mk (blk_below (bG BK131.out) hb); have n2_ := Aside0.mk (blk_below (bG BK132.out) hb); have n3_ := Aside0.mk (blk_below (bG BK133.out) hb); have n4_ := Aside0.mk (below_step (eG HB.out) hb); clear BK131; clear BK132; clear BK133; clear HB; have HO138 := n0_; have BK131 := n1_; have BK132 := n2_; have BK133 := n3_; have HB := n4_; clear n0_ n1_ n2_ n3_ n4_; (try clear hb)
       (try clear hb2)
       (try clear hk)
       (try clear hi)
       (try clear ho0)
       obtain ⟨Ao90, co90, eo90⟩ := Kd.R_slice HO138.out; (first | subst eo90 | (injection eo90 with f1_ f2_ f3_; have f4_ := f1_.symm; have f5_ := f3_.symm; clear f1_ f2_ f3_; subst f4_; subst f5_))
       refine hK.out _ _ ⟨(blk_cell BK131.out 0).trans rfl, (blk_cell BK131.out 1).trans rfl⟩ (fun hHeld => ?_); clear hK K; refine norm_ (a' := ?_) ?_ ?_; rotate_left
       ·
        show Act.put _ (some 23) _ = _
        simp only [Act.put, sIA, sC0, sCS, i64_w, i32_w]; rfl
       refine pure_ (i := 5) (N := some 24) (v := ?_) (a' := ?_) #[true, true, true, true, true, true, false, false] rfl rfl (any_of HT_.out (by kernel_rfl)) (fun _ _ _ h => h) (Or.inl ⟨by rfl, ?_⟩) ?_ ?_; rotate_left
       · intro w'; go_simp; with_reducible rfl
       rotate_left
       · simp only [Act.put, sIA, sC0, sCS, i64_w, i32_w]; rfl
       refine one_ (i := 6) (N := some 6) #[true, true, true, true, true, true, true, false] rfl rfl (one_of HT_.out (by kernel_rfl)) (by decide) (fun K hK => ?_); refine box_step ?hg (N := 6) ?hd (cs := #[.int .i64 0, .slice none 0 0]) (t := 24) ?hr ?_; (case hd => rfl); (case hg => rfl); (case hr => first | (go_simp; done) | (go_simp; rfl))
       intro gb139 hg w91 hbox hb; have n0_ := Aside0.mk (Kd.R_below (rG HO138.out) hb); have n1_ := Aside0.mk (blk_below (bG BK131.out) hb); have n2_ := Aside0.mk (blk_below (bG BK132.out) hb); have n3_ := Aside0.mk (blk_below (bG BK133.out) hb); have n4_ := Aside0.mk (below_step (eG HB.out) hb); have n5_ := Aside0.mk (hbox); have n6_ := Aside0.mk ((by rw [hg]; exact (below_size (eG HB.out)) : w.heap.size ≤ gb139)); have n7_ := Aside0.mk ((by rw [hg]; exact (below_size (eG HB.out)) : w.heap.size ≤ gb139)); have n8_ := Aside0.mk ((by rw [hg]; exact Nat.ne_of_lt (blk_lt (bG BK131.out)) : gb131 ≠ gb139)); have n9_ := Aside0.mk ((by rw [hg]; exact Nat.ne_of_gt (blk_lt (bG BK131.out)) : gb139 ≠ gb131)); have n10_ := Aside0.mk ((by rw [hg]; exact Nat.ne_of_lt (blk_lt (bG BK132.out)) : gb132 ≠ gb139)); have n11_ := Aside0.mk ((by rw [hg]; exact Nat.ne_of_gt (blk_lt (bG BK132.out)) : gb139 ≠ gb132)); have n12_ := Aside0.mk ((by rw [hg]; exact Nat.ne_of_lt (blk_lt (bG BK133.out)) : gb133 ≠ gb139)); have n13_ := Aside0.mk ((by rw [hg]; exact Nat.ne_of_gt (blk_lt (bG BK133.out)) : gb139 ≠ gb133)); clear HO138; clear BK131; clear BK132; clear BK133; clear HB; have HO138 := n0_; have BK131 := n1_; have BK132 := n2_; have BK133 := n3_; have HB := n4_; have BK139 := n5_; have GW139 := n6_; have GE139 := n7_; have ig139_ := geI GE139
       have NB131_139 := n8_; have NB139_131 := n9_; have NB132_139 := n10_; have NB139_132 := n11_; have NB133_139 := n12_; have NB139_133 := n13_; clear n0_ n1_ n2_ n3_ n4_ n5_ n6_ n7_ n8_ n9_ n10_ n11_ n12_ n13_; clear hb hbox hg; refine hK.out _ _ ⟨(blk_cell BK131.out 0).trans rfl, (blk_cell BK131.out 1).trans rfl⟩ (fun hHeld => ?_); clear hK K; refine norm_ (a' := ?_) ?_ ?_; rotate_left
       ·
        show Act.put _ (some 6) _ = _
        simp only [Act.put, sIA, sC0, sCS, i64_w, i32_w]; rfl
       exact norm_ (by simp only [putAll, Act.put, sIA, sC0, sCS]) (hCont (.slice Ao90 t136.length co90, gb139) _ ⟨hHeld, (by (with_reducible repeat (first | apply Kd.R_alloc | apply Kd.R_drewN | apply Kd.R_drew)); exact Kd.R_mono HO138.out (fun _ hk => hk.2)), (bG BK131.out), (bG BK132.out), (bG BK133.out), (bG BK139.out), GW139.out, GE139.out, NB131_139.out, NB139_131.out, NB132_139.out, NB139_132.out, NB133_139.out, NB139_133.out, (eG HB.out)⟩)
      ·
       skip
       refine box_step ?hg (N := 6) ?hd (cs := #[.int .i64 0, .slice none 0 0]) (t := 24) ?hr ?_; (case hd => rfl); (case hg => rfl); (case hr => first | (go_simp; done) | (go_simp; rfl))
       intro gb139 hg w89 hbox hb; have n0_ := Aside0.mk (blk_below (bG BK131.out) hb); have n1_ := Aside0.mk (blk_below (bG BK132.out) hb); have n2_ := Aside0.mk (blk_below (bG BK133.out) hb); have n3_ := Aside0.mk (below_step (eG HB.out) hb); have n4_ := Aside0.mk (hbox); have n5_ := Aside0.mk ((by rw [hg]; exact (below_size (eG HB.out)) : w.heap.size ≤ gb139)); have n6_ := Aside0.mk ((by rw [hg]; exact (below_size (eG HB.out)) : w.heap.size ≤ gb139)); have n7_ := Aside0.mk ((by rw [hg]; exact Nat.ne_of_lt (blk_lt (bG BK131.out)) : gb131 ≠ gb139)); have n8_ := Aside0.mk ((by rw [hg]; exact Nat.ne_of_gt (blk_lt (bG BK131.out)) : gb139 ≠ gb131)); have n9_ := Aside0.mk ((by rw [hg]; exact Nat.ne_of_lt (blk_lt (bG BK132.out)) : gb132 ≠ gb139)); have n10_ := Aside0.mk ((by rw [hg]; exact Nat.ne_of_gt (blk_lt (bG BK132.out)) : gb139 ≠ gb132)); have n11_ := Aside0.mk ((by rw [hg]; exact Nat.ne_of_lt (blk_lt (bG BK133.out)) : gb133 ≠ gb139)); have n12_ := Aside0.mk ((by rw [hg]; exact Nat.ne_of_gt (blk_lt (bG BK133.out)) : gb139 ≠ gb133)); clear BK131; clear BK132; clear BK133; clear HB; have BK131 := n0_; have BK132 := n1_; have BK133 := n2_; have HB := n3_; have BK139 := n4_; have GW139 := n5_; have GE139 := n6_; have ig139_ := geI GE139
       have NB131_139 := n7_; have NB139_131 := n8_; have NB132_139 := n9_; have NB139_132 := n10_; have NB133_139 := n11_; have NB139_133 := n12_; clear n0_ n1_ n2_ n3_ n4_ n5_ n6_ n7_ n8_ n9_ n10_ n11_ n12_; clear hb hbox hg; refine hK.out _ _ ⟨(blk_cell BK131.out 0).trans rfl, (blk_cell BK131.out 1).trans rfl⟩ (fun hHeld => ?_); clear hK K; refine norm_ (a' := ?_) ?_ ?_; rotate_left
       ·
        show Act.put _ (some 6) _ = _
        simp only [Act.put, sIA, sC0, sCS, i64_w, i32_w]; rfl
       refine one_ (i := 4) (N := some 23) #[true, true, true, true, true, false, true, false] rfl rfl (one_of HT_.out (by kernel_rfl)) (by decide) (fun K hK => ?_); refine goes_ Tryz.func38 (by kernel_rfl) rfl #[.slice A0_1 l0_1.length c0_1] (by rfl) rfl rfl (by (try simp only [List.map_toArray, List.map_cons, List.map_nil]); first | done | rfl | (simp only [List.length_drop, List.length_take]; rfl)) ?_; with_reducible refine (slices_Clone26.calls _ _ l0_1 t136 _ ?side1 ?side2 A7.out).mono ?_
       (case side1 => repeat (first | exact (Kd.C_below HR0_1.out HB.out) | (with_reducible refine Kd.C_alloc ?_ _) | (with_reducible refine Kd.C_drewN ?_ _) | (with_reducible refine Kd.C_drew ?_)))
       (case side2 => exact HC0_1.out)
       rintro e w90 ⟨v137, rfl, ho0, hb⟩; refine ⟨_, rfl, ?_⟩; have n0_ := Aside0.mk (Kd.R_lower (Kd.R_newB ho0 (bG BK132.out)) (below_size (eG HB.out))); have n1_ := Aside0.mk (blk_below (bG BK131.out) hb); have n2_ := Aside0.mk (blk_below (bG BK132.out) hb); have n3_ := Aside0.mk (blk_below (bG BK133.out) hb); have n4_ := Aside0.mk (blk_below (bG BK139.out) hb); have n5_ := Aside0.mk (below_step (eG HB.out) hb); clear BK131; clear BK132; clear BK133; clear BK139; clear HB; have HO138 := n0_; have BK131 := n1_; have BK132 := n2_; have BK133 := n3_; have BK139 := n4_; have HB := n5_; clear n0_ n1_ n2_ n3_ n4_ n5_; (try clear hb)
       (try clear hb2)
       (try clear hk)
       (try clear hi)
       (try clear ho0)
       obtain ⟨Ao91, co91, eo91⟩ := Kd.R_slice HO138.out; (first | subst eo91 | (injection eo91 with f1_ f2_ f3_; have f4_ := f1_.symm; have f5_ := f3_.symm; clear f1_ f2_ f3_; subst f4_; subst f5_))
       refine hK.out _ _ ⟨(blk_cell BK131.out 0).trans rfl, (blk_cell BK131.out 1).trans rfl⟩ (fun hHeld => ?_); clear hK K; refine norm_ (a' := ?_) ?_ ?_; rotate_left
       ·
        show Act.put _ (some 23) _ = _
        simp only [Act.put, sIA, sC0, sCS, i64_w, i32_w]; rfl
       refine pure_ (i := 5) (N := some 24) (v := ?_) (a' := ?_) #[true, true, true, true, true, true, true, false] rfl rfl (any_of HT_.out (by kernel_rfl)) (fun _ _ _ h => h) (Or.inl ⟨by rfl, ?_⟩) ?_ ?_; rotate_left
       · intro w'; go_simp; with_reducible rfl
       rotate_left
       · simp only [Act.put, sIA, sC0, sCS, i64_w, i32_w]; rfl
       exact norm_ (by simp only [putAll, Act.put, sIA, sC0, sCS]) (hCont (.slice Ao91 t136.length co91, gb139) _ ⟨hHeld, (by (with_reducible repeat (first | apply Kd.R_alloc | apply Kd.R_drewN | apply Kd.R_drew)); exact Kd.R_mono HO138.out (fun _ hk => hk.2)), (bG BK131.out), (bG BK132.out), (bG BK133.out), (bG BK139.out), GW139.out, GE139.out, NB131_139.out, NB139_131.out, NB132_139.out, NB139_132.out, NB133_139.out, NB139_133.out, (eG HB.out)⟩)
     rintro ⟨v137, gb139⟩ w92 ⟨hS_, h0_, h1_, h2_, h3_, h4_, h5_, h6_, h7_, h8_, h9_, h10_, h11_, h12_, h13_⟩; have n0_ : Aside0 (Kd.R k26 26 w92 w.heap.size (fun k_ => k_ ≠ gb132) v137 t136) := ⟨h0_⟩; have n1_ : Aside0 (w92.heap[gb131]? = some (.cells #[.int .i64 a0_0, .slice A0_1 l0_1.length c0_1] 24 (0, 0))) := ⟨h1_⟩; have n2_ : Aside0 (w92.heap[gb132]? = some (.cells #[.int .i64 a1_0, .int .i64 a1_1, .int .i64 a1_2] 26 (0, 0))) := ⟨h2_⟩; have n3_ : Aside0 (w92.heap[gb133]? = some (.cells #[.int .i64 0, .slice none 0 0] 24 (0, 0))) := ⟨h3_⟩; have n4_ : Aside0 (w92.heap[gb139]? = some (.cells #[.int .i64 0, .slice none 0 0] 24 (0, 0))) := ⟨h4_⟩; have n5_ : Aside0 (w.heap.size ≤ gb139) := ⟨h5_⟩; have n6_ : Aside0 (w.heap.size ≤ gb139) := ⟨h6_⟩; have n7_ : Aside0 (gb131 ≠ gb139) := ⟨h7_⟩; have n8_ : Aside0 (gb139 ≠ gb131) := ⟨h8_⟩; have n9_ : Aside0 (gb132 ≠ gb139) := ⟨h9_⟩; have n10_ : Aside0 (gb139 ≠ gb132) := ⟨h10_⟩; have n11_ : Aside0 (gb133 ≠ gb139) := ⟨h11_⟩; have n12_ : Aside0 (gb139 ≠ gb133) := ⟨h12_⟩; have n13_ : Aside0 (Below w.heap.size w w92) := ⟨h13_⟩; clear BK131; clear BK132; clear BK133; clear HB; clear h0_ h1_ h2_ h3_ h4_ h5_ h6_ h7_ h8_ h9_ h10_ h11_ h12_ h13_; have HO138 := n0_; have BK131 := n1_; have BK132 := n2_; have BK133 := n3_; have BK139 := n4_; have GW139 := n5_; have GE139 := n6_; have ig139_ := geI GE139
     have NB131_139 := n7_; have NB139_131 := n8_; have NB132_139 := n9_; have NB139_132 := n10_; have NB133_139 := n11_; have NB139_133 := n12_; have HB := n13_; clear n0_ n1_ n2_ n3_ n4_ n5_ n6_ n7_ n8_ n9_ n10_ n11_ n12_ n13_; have hHeld : w92.cell? ⟨gb131, 0, none⟩ = some (.int .i64 a0_0) ∧ w92.cell? ⟨gb131, 1, none⟩ = some (.slice A0_1 l0_1.length c0_1) := hS_; obtain ⟨Ao93, co93, eo93⟩ := Kd.R_slice HO138.out; (first | subst eo93 | (injection eo93 with f1_ f2_ f3_; have f4_ := f1_.symm; have f5_ := f3_.symm; clear f1_ f2_ f3_; subst f4_; subst f5_))
     refine norm_ (a' := ?_) ?_ ?_; rotate_left
     · simp only [putAll, Act.put, sIA, sC0, sCS]; rfl
     refine one_ (i := 7) (N := none) #[true, true, true, true, true, true, true, true] rfl rfl (one_of HT_.out (by kernel_rfl)) (by decide) (fun K hK => ?_); have hs94 : w92.cell? ⟨gb139, 0, none⟩ = some (.int .i64 0) := (blk_cell BK139.out 0).trans rfl; have hfs94 := blk_frozen BK139.out 0; have hns94_0 := NB131_139.out; have hns94_1 := NB132_139.out; have hns94_2 := NB133_139.out; have hms94_0 := NB139_131.out; have hms94_1 := NB139_132.out; have hms94_2 := NB139_133.out; have hs95 : w92.cell? ⟨gb139, 1, none⟩ = some (.slice none 0 0) := (blk_cell BK139.out 1).trans rfl; have hfs95 := blk_frozen BK139.out 1; have hns95_0 := NB131_139.out; have hns95_1 := NB132_139.out; have hns95_2 := NB133_139.out; have hms95_0 := NB139_131.out; have hms95_1 := NB139_132.out; have hms95_2 := NB139_133.out; refine skip_ (w1 := ?_) (by rfl) rfl ?_ ?_; rotate_left
     · go_simp; rfl
     refine hK.out _ _ ⟨((cell_far (p := ⟨gb139, _, none⟩) NB131_139.out _).trans (((cell_far (p := ⟨gb139, _, none⟩) NB131_139.out _).trans (hHeld.1)))), ((cell_far (p := ⟨gb139, _, none⟩) NB131_139.out _).trans (((cell_far (p := ⟨gb139, _, none⟩) NB131_139.out _).trans (hHeld.2))))⟩ (fun hHeld => ?_); clear hK K; refine done_ (done_of HT_.out (by kernel_rfl)) ?_; have hnb96 := NB139_131.out; have hnc96 := NB131_139.out; have hnb97 := NB139_132.out; have hnc97 := NB132_139.out; have hnb98 := NB139_133.out; have hnc98 := NB133_139.out; have hcz99_0 : w92.cell? ⟨gb139, 0, none⟩ = some (.int .i64 0) := (blk_cell BK139.out 0).trans rfl; have hcz99_1 : w92.cell? ⟨gb139, 1, none⟩ = some (.slice none 0 0) := (blk_cell BK139.out 1).trans rfl; have hfz99_0 := blk_frozen BK139.out 0; have hfz99_1 := blk_frozen BK139.out 1; have hcz100_0 : w92.cell? ⟨gb132, 0, none⟩ = some (.int .i64 a1_0) := (blk_cell BK132.out 0).trans rfl; have hcz100_1 : w92.cell? ⟨gb132, 1, none⟩ = some (.int .i64 a1_1) := (blk_cell BK132.out 1).trans rfl; have hcz100_2 : w92.cell? ⟨gb132, 2, none⟩ = some (.int .i64 a1_2) := (blk_cell BK132.out 2).trans rfl; have hfz100_0 := blk_frozen BK132.out 0; have hfz100_1 := blk_frozen BK132.out 1; have hfz100_2 := blk_frozen BK132.out 2; try go_wp2_with (first | ((with_reducible refine gate_callee (f := 42) rfl ?_); refine goesL_ (some 29) rfl rfl Tryz.func42 (by kernel_rfl) rfl #[.slice Ao93 t136.length co93, .agg #[.int .i64 a1_0, .int .i64 a1_1, .int .i64 a1_2], .func (.func 37) #[] #[]] rfl (by (try simp only [List.map_toArray, List.map_cons, List.map_nil]); first | done | rfl | (simp only [List.length_drop, List.length_take]; rfl)) ?_; (with_reducible refine (api_Rate_42_at_37.calls k _ _ t136 a1_0 a1_1 a1_2 t140 false _ ?side1 ?side2 A8.out).mono ?_); (case side1 => refine (Kd.R_reads' (e := 26) (base := w.heap.size) (ok := fun k_ => k_ ≠ gb132) (n := t136.length) (c := co93) ?_).2.2; exact (by (with_reducible repeat (first | apply Kd.R_alloc | apply Kd.R_drewN | apply Kd.R_drew)); exact (Kd.R_mono (Kd.R_far (p := ⟨gb139, 1, none⟩) (Kd.R_far (p := ⟨gb139, 0, none⟩) (Kd.R_types HO138.out BK139.out (by decide)) (fun _ hk => hk.2) (.int .i64 a0_0)) (fun _ hk => hk.2) (.slice Ao93 t136.length co93)) (fun _ h_ => h_.1)))); (case side2 => exact (Kd.R_reads' HO138.out).2.1); rintro e w101 ⟨rfl, hb⟩; refine ⟨_, rfl, ?_⟩; have n0_ := Aside0.mk (Kd.R_below (by (with_reducible repeat (first | apply Kd.R_alloc | apply Kd.R_drewN | apply Kd.R_drew)); exact (Kd.R_mono (Kd.R_far (p := ⟨gb139, 1, none⟩) (Kd.R_far (p := ⟨gb139, 0, none⟩) (Kd.R_types HO138.out BK139.out (by decide)) (fun _ hk => hk.2) (.int .i64 a0_0)) (fun _ hk => hk.2) (.slice Ao93 t136.length co93)) (fun _ h_ => h_.1))) hb); have n1_ := Aside0.mk (blk_below (g := gb131) (o := .cells #[.int .i64 a0_0, .slice A0_1 l0_1.length c0_1] 24 (0, 0)) (by (with_reducible repeat first | apply bN | apply bD | apply bA); refine blk_far ?_ NB131_139.out _; (with_reducible repeat first | apply bN | apply bD | apply bA); refine blk_far ?_ NB131_139.out _; (with_reducible repeat first | apply bN | apply bD | apply bA); exact BK131.out) hb); have n2_ := Aside0.mk (blk_below (g := gb132) (o := .cells #[.int .i64 a1_0, .int .i64 a1_1, .int .i64 a1_2] 26 (0, 0)) (by (with_reducible repeat first | apply bN | apply bD | apply bA); refine blk_far ?_ NB132_139.out _; (with_reducible repeat first | apply bN | apply bD | apply bA); refine blk_far ?_ NB132_139.out _; (with_reducible repeat first | apply bN | apply bD | apply bA); exact BK132.out) hb); have n3_ := Aside0.mk (blk_below (g := gb133) (o := .cells #[.int .i64 0, .slice none 0 0] 24 (0, 0)) (by (with_reducible repeat first | apply bN | apply bD | apply bA); refine blk_far ?_ NB133_139.out _; (with_reducible repeat first | apply bN | apply bD | apply bA); refine blk_far ?_ NB133_139.out _; (with_reducible repeat first | apply bN | apply bD | apply bA); exact BK133.out) hb); have n4_ := Aside0.mk (blk_below (g := gb139) (o := .cells #[.int .i64 a0_0, .slice Ao93 t136.length co93] 24 (0, 0)) (by (with_reducible repeat first | apply bN | apply bD | apply bA); refine blk_put (cs := #[.int .i64 a0_0, .slice none 0 0]) ?_ 1 _ rfl; (with_reducible repeat first | apply bN | apply bD | apply bA); refine blk_put (cs := #[.int .i64 0, .slice none 0 0]) ?_ 0 _ rfl; (with_reducible repeat first | apply bN | apply bD | apply bA); exact BK139.out) hb); have n5_ := Aside0.mk (below_step (eG HB.out) hb); clear HO138; clear BK131; clear BK132; clear BK133; clear BK139; clear HB; have HO138 := n0_; have BK131 := n1_; have BK132 := n2_; have BK133 := n3_; have BK139 := n4_; have HB := n5_; clear n0_ n1_ n2_ n3_ n4_ n5_; (try clear hb); (try clear hb2); (try clear hk); (try clear hi); have hcz102_0 : w101.cell? ⟨gb139, 0, none⟩ = some (.int .i64 a0_0) := (blk_cell BK139.out 0).trans rfl; have hcz102_1 : w101.cell? ⟨gb139, 1, none⟩ = some (.slice Ao93 t136.length co93) := (blk_cell BK139.out 1).trans rfl; have hfz102_0 := blk_frozen BK139.out 0; have hfz102_1 := blk_frozen BK139.out 1; have hcz103_0 : w101.cell? ⟨gb132, 0, none⟩ = some (.int .i64 a1_0) := (blk_cell BK132.out 0).trans rfl; have hcz103_1 : w101.cell? ⟨gb132, 1, none⟩ = some (.int .i64 a1_1) := (blk_cell BK132.out 1).trans rfl; have hcz103_2 : w101.cell? ⟨gb132, 2, none⟩ = some (.int .i64 a1_2) := (blk_cell BK132.out 2).trans rfl; have hfz103_0 := blk_frozen BK132.out 0; have hfz103_1 := blk_frozen BK132.out 1; have hfz103_2 := blk_frozen BK132.out 2) | ((with_reducible refine gate_dst (N := 43) rfl ?_); refine Kd.R_lit k26 _ 26 ?hg (N := 43) ?hd (xs := ([(⟨a1_0, a1_1, a1_2⟩ : S26)] : List (S26))) (inner := [.int .i64 a1_0, .int .i64 a1_1, .int .i64 a1_2]) (ok := fun _ => True) (okp := fun _ => True) ?hr ?hp (fun _ hk => hk) trivial (Below.refl _ _) (Nat.le_refl _) (by simp) ?_; (case hd => rfl); (case hg => rfl); (case hr => first | (go_simp; done) | (go_simp; rfl)); (case hp => exact (Reps.c3 (show Kd.M k26 _ _ _ (⟨a1_0, a1_1, a1_2⟩ : S26) [.int .i64 a1_0, .int .i64 a1_1, .int .i64 a1_2] from (k26_mkM _ _ _ (⟨a1_0, a1_1, a1_2⟩ : S26) )) (Reps.none _ _))); intro v144 w104 ho105 hb hg_ hnew_; clear hg_ hnew_; (first | rw [← Ny143.out] at ho105 | (simp only [Int.reduceToNat] at ho105; rw [← Ny143.out] at ho105)); have n0_ := Aside0.mk (Kd.R_elder' (rG HO138.out) (Kd.R_base ho105) hb); have n1_ := Aside0.mk (Kd.R_lower (Kd.R_newB (Kd.R_new' ho105 (Kd.R_lt (rG HO138.out))) (bG BK132.out)) (below_size (eG HB.out))); have n2_ := Aside0.mk (blk_below (bG BK131.out) hb); have n3_ := Aside0.mk (blk_below (bG BK132.out) hb); have n4_ := Aside0.mk (blk_below (bG BK133.out) hb); have n5_ := Aside0.mk (blk_below (bG BK139.out) hb); have n6_ := Aside0.mk (below_step (eG HB.out) hb); clear HO138; clear BK131; clear BK132; clear BK133; clear BK139; clear HB; have HO138 := n0_; have HO145 := n1_; have BK131 := n2_; have BK132 := n3_; have BK133 := n4_; have BK139 := n5_; have HB := n6_; clear n0_ n1_ n2_ n3_ n4_ n5_ n6_; clear hb ho105; obtain ⟨Ao106, co106, eo106⟩ := Kd.R_slice HO145.out; subst eo106) | ((with_reducible refine gate_callee (f := 43) rfl ?_); refine goesL_ (some 44) rfl rfl Tryz.func43 (by kernel_rfl) rfl #[.slice Ao93 t136.length co93, .int .i64 t140, .slice Ao106 y143.length co106] rfl (by (try simp only [List.map_toArray, List.map_cons, List.map_nil]); first | done | rfl | (simp only [List.length_drop, List.length_take]; rfl)) ?_; (refine (slices_Insert26.own HO138.out HO145.out (fun k hk => by first | exact hk.1.2 | exact hk.2 | exact hk.1.1.2) (below_size HB.out) A43.out).mono ?_); rintro e w107 ⟨v147, rfl, ho0, hgr⟩; refine ⟨_, rfl, ?_⟩; have n0_ := Aside0.mk ho0; have m0_ := Aside0.mk (blk_grown BK131.out hgr (Kd.R_ne HO138.out BK131.out (by decide))); have m1_ := Aside0.mk (blk_grown BK132.out hgr (fun e => by have h_ := HO138.out.1 _ e.symm; first | exact h_ rfl | exact h_.1 rfl | exact h_.1.1 rfl)); have m2_ := Aside0.mk (blk_grown BK133.out hgr (Kd.R_ne HO138.out BK133.out (by decide))); have m3_ := Aside0.mk (blk_grown BK139.out hgr (Kd.R_ne HO138.out BK139.out (by decide))); have n1_ := Aside0.mk (HB.out.grown hgr (below_size HB.out) (fun k e => own_base (R26_own HO138.out) k e)); clear HO138; clear HO145; clear BK131; clear BK132; clear BK133; clear BK139; clear HB; have HO148 := n0_; have BK131 := m0_; have BK132 := m1_; have BK133 := m2_; have BK139 := m3_; have HB := n1_; clear n0_ n1_; (try clear ho0); clear hgr; obtain ⟨Ao108, co108, eo108⟩ := Kd.R_slice HO148.out; subst eo108; have hcz109_0 : w107.cell? ⟨gb139, 0, none⟩ = some (.int .i64 a0_0) := (blk_cell BK139.out 0).trans rfl; have hcz109_1 : w107.cell? ⟨gb139, 1, none⟩ = some (.slice Ao93 t136.length co93) := (blk_cell BK139.out 1).trans rfl; have hfz109_0 := blk_frozen BK139.out 0; have hfz109_1 := blk_frozen BK139.out 1; have hcz110_0 : w107.cell? ⟨gb133, 0, none⟩ = some (.int .i64 0) := (blk_cell BK133.out 0).trans rfl; have hcz110_1 : w107.cell? ⟨gb133, 1, none⟩ = some (.slice none 0 0) := (blk_cell BK133.out 1).trans rfl; have hfz110_0 := blk_frozen BK133.out 0; have hfz110_1 := blk_frozen BK133.out 1))
     refine bodyPost_ret (results_ct rfl _ _ gb133 24 #[.int .i64 a0_0, .slice Ao108 t146.length co108] (0, 0) _ rfl (by (with_reducible repeat first | apply bN | apply bD | apply bA); refine blk_put (cs := #[.int .i64 a0_0, .slice none 0 0]) ?_ 1 _ rfl; (with_reducible repeat first | apply bN | apply bD | apply bA); refine blk_put (cs := #[.int .i64 0, .slice none 0 0]) ?_ 0 _ rfl; (with_reducible repeat first | apply bN | apply bD | apply bA); refine blk_far ?_ NB133_139.out _; (with_reducible repeat first | apply bN | apply bD | apply bA); exact BK133.out) Tryz.underlying24 rfl (by kernel_rfl)) rfl ?_; exact ⟨_, by first | rfl | (simp [errW_none, errW_some] <;> rfl) | (simp [*, errW_none, errW_some] <;> rfl), by (with_reducible repeat (first | apply Kd.R_alloc | apply Kd.R_drewN | apply Kd.R_drew)); exact Kd.R_mono (Kd.R_far (p := ⟨gb133, 1, none⟩) (Kd.R_far (p := ⟨gb133, 0, none⟩) (Kd.R_far (p := ⟨gb139, 1, none⟩) (Kd.R_types (Kd.R_types HO148.out BK139.out (by decide)) BK133.out (by decide)) (fun _ hk => hk.1.2) (.slice Ao108 t146.length co108)) (fun _ hk => hk.2) (.int .i64 a0_0)) (fun _ hk => hk.2) (.slice Ao108 t146.length co108)) (fun _ hk => trivial), eG HB.out⟩
  ·
   replace c6 := Bool.eq_false_iff.mpr c6; subst c6; replace H : (some (0, ([] : List (S26)), 2)) = some (r1, r2, r3) := by rw [if_neg (show ¬ (false = true) by decide)] at H; exact H
   simp only [Option.some.injEq, Prod.mk.injEq] at H; obtain ⟨rfl, rfl, rfl⟩ := H; go_enter Tryz.func16, Tryz.ntmps16
   go_wp2_with (first | ((with_reducible refine gate_dst (N := 2) rfl ?_); refine box_event ?hg (N := 2) ?hd (cs := #[.int .i64 a0_0, .slice A0_1 l0_1.length c0_1]) (t := 24) ?hr ?_; (case hd => rfl); (case hg => rfl); (case hr => first | (go_simp; done) | (go_simp; rfl)); intro gb131 hg w111 hbox hb; have n0_ := Aside0.mk (below_step (eG HB.out) hb); have n1_ := Aside0.mk (hbox); have n2_ := Aside0.mk ((by rw [hg]; exact (below_size (eG HB.out)) : w.heap.size ≤ gb131)); have n3_ := Aside0.mk ((by rw [hg]; exact (below_size (eG HB.out)) : w.heap.size ≤ gb131)); clear HB; have HB := n0_; have BK131 := n1_; have GW131 := n2_; have GE131 := n3_; have ig131_ := geI GE131; clear n0_ n1_ n2_ n3_; clear hb hbox hg) | ((with_reducible refine gate_dst (N := 3) rfl ?_); refine box_event ?hg (N := 3) ?hd (cs := #[.int .i64 a1_0, .int .i64 a1_1, .int .i64 a1_2]) (t := 26) ?hr ?_; (case hd => rfl); (case hg => rfl); (case hr => first | (go_simp; done) | (go_simp; rfl)); intro gb132 hg w112 hbox hb; have n0_ := Aside0.mk (blk_below (bG BK131.out) hb); have n1_ := Aside0.mk (below_step (eG HB.out) hb); have n2_ := Aside0.mk (hbox); have n3_ := Aside0.mk ((by rw [hg]; exact (below_size (eG HB.out)) : w.heap.size ≤ gb132)); have n4_ := Aside0.mk ((by rw [hg]; exact (below_size (eG HB.out)) : w.heap.size ≤ gb132)); have n5_ := Aside0.mk ((by rw [hg]; exact Nat.ne_of_lt (blk_lt (bG BK131.out)) : gb131 ≠ gb132)); have n6_ := Aside0.mk ((by rw [hg]; exact Nat.ne_of_gt (blk_lt (bG BK131.out)) : gb132 ≠ gb131)); clear BK131; clear HB; have BK131 := n0_; have HB := n1_; have BK132 := n2_; have GW132 := n3_; have GE132 := n4_; have ig132_ := geI GE132; have NB131_132 := n5_; have NB132_131 := n6_; clear n0_ n1_ n2_ n3_ n4_ n5_ n6_; clear hb hbox hg) | ((with_reducible refine gate_dst (N := 4) rfl ?_); refine box_event ?hg (N := 4) ?hd (cs := #[.int .i64 0, .slice none 0 0]) (t := 24) ?hr ?_; (case hd => rfl); (case hg => rfl); (case hr => first | (go_simp; done) | (go_simp; rfl)); intro gb133 hg w113 hbox hb; have n0_ := Aside0.mk (blk_below (bG BK131.out) hb); have n1_ := Aside0.mk (blk_below (bG BK132.out) hb); have n2_ := Aside0.mk (below_step (eG HB.out) hb); have n3_ := Aside0.mk (hbox); have n4_ := Aside0.mk ((by rw [hg]; exact (below_size (eG HB.out)) : w.heap.size ≤ gb133)); have n5_ := Aside0.mk ((by rw [hg]; exact (below_size (eG HB.out)) : w.heap.size ≤ gb133)); have n6_ := Aside0.mk ((by rw [hg]; exact Nat.ne_of_lt (blk_lt (bG BK131.out)) : gb131 ≠ gb133)); have n7_ := Aside0.mk ((by rw [hg]; exact Nat.ne_of_gt (blk_lt (bG BK131.out)) : gb133 ≠ gb131)); have n8_ := Aside0.mk ((by rw [hg]; exact Nat.ne_of_lt (blk_lt (bG BK132.out)) : gb132 ≠ gb133)); have n9_ := Aside0.mk ((by rw [hg]; exact Nat.ne_of_gt (blk_lt (bG BK132.out)) : gb133 ≠ gb132)); clear BK131; clear BK132; clear HB; have BK131 := n0_; have BK132 := n1_; have HB := n2_; have BK133 := n3_; have GW133 := n4_; have GE133 := n5_; have ig133_ := geI GE133; have NB131_133 := n6_; have NB133_131 := n7_; have NB132_133 := n8_; have NB133_132 := n9_; clear n0_ n1_ n2_ n3_ n4_ n5_ n6_ n7_ n8_ n9_; clear hb hbox hg; have hnb114 := NB131_132.out; have hnc114 := NB132_131.out; have hnb115 := NB131_133.out; have hnc115 := NB133_131.out; have hcz116_0 : w113.cell? ⟨gb131, 0, none⟩ = some (.int .i64 a0_0) := (blk_cell BK131.out 0).trans rfl; have hcz116_1 : w113.cell? ⟨gb131, 1, none⟩ = some (.slice A0_1 l0_1.length c0_1) := (blk_cell BK131.out 1).trans rfl; have hfz116_0 := blk_frozen BK131.out 0; have hfz116_1 := blk_frozen BK131.out 1) | ((with_reducible refine gate_callee (f := 41) rfl ?_); refine goesL_ (some 11) rfl rfl Tryz.func41 (by kernel_rfl) rfl #[.agg #[.int .i64 a0_0, .slice A0_1 l0_1.length c0_1]] rfl (by (try simp only [List.map_toArray, List.map_cons, List.map_nil]); first | done | rfl | (simp only [List.length_drop, List.length_take]; rfl)) ?_; (with_reducible refine (tariff_right.calls k a0_0 _ _ l0_1 true _ ?side1 ?side2 A3.out).mono ?_); (case side1 => repeat (first | exact (Kd.C_below HR0_1.out HB.out) | (with_reducible refine Kd.C_alloc ?_ _) | (with_reducible refine Kd.C_drewN ?_ _) | (with_reducible refine Kd.C_drew ?_))); (case side2 => exact HC0_1.out); rintro e w117 ⟨rfl, hb⟩; refine ⟨_, rfl, ?_⟩; have n0_ := Aside0.mk (blk_below (bG BK131.out) hb); have n1_ := Aside0.mk (blk_below (bG BK132.out) hb); have n2_ := Aside0.mk (blk_below (bG BK133.out) hb); have n3_ := Aside0.mk (below_step (eG HB.out) hb); clear BK131; clear BK132; clear BK133; clear HB; have BK131 := n0_; have BK132 := n1_; have BK133 := n2_; have HB := n3_; clear n0_ n1_ n2_ n3_; (try clear hb); (try clear hb2); (try clear hk); (try clear hi); have hnb118 := NB132_133.out; have hnc118 := NB133_132.out; have hcz119_0 : w117.cell? ⟨gb132, 0, none⟩ = some (.int .i64 a1_0) := (blk_cell BK132.out 0).trans rfl; have hcz119_1 : w117.cell? ⟨gb132, 1, none⟩ = some (.int .i64 a1_1) := (blk_cell BK132.out 1).trans rfl; have hcz119_2 : w117.cell? ⟨gb132, 2, none⟩ = some (.int .i64 a1_2) := (blk_cell BK132.out 2).trans rfl; have hfz119_0 := blk_frozen BK132.out 0; have hfz119_1 := blk_frozen BK132.out 1; have hfz119_2 := blk_frozen BK132.out 2) | ((with_reducible refine gate_callee (f := 36) rfl ?_); refine goesL_ (some 16) rfl rfl Tryz.func36 (by kernel_rfl) rfl #[.agg #[.int .i64 a1_0, .int .i64 a1_1, .int .i64 a1_2]] rfl (by (try simp only [List.map_toArray, List.map_cons, List.map_nil]); first | done | rfl | (simp only [List.length_drop, List.length_take]; rfl)) ?_; (with_reducible refine (tariff_ranged.calls a1_0 a1_1 a1_2 false _ A5.out).mono ?_); rintro e w120 ⟨rfl, hb⟩; refine ⟨_, rfl, ?_⟩; have n0_ := Aside0.mk (blk_below (bG BK131.out) hb); have n1_ := Aside0.mk (blk_below (bG BK132.out) hb); have n2_ := Aside0.mk (blk_below (bG BK133.out) hb); have n3_ := Aside0.mk (below_step (eG HB.out) hb); clear BK131; clear BK132; clear BK133; clear HB; have BK131 := n0_; have BK132 := n1_; have BK133 := n2_; have HB := n3_; clear n0_ n1_ n2_ n3_; (try clear hb); (try clear hb2); (try clear hk); (try clear hi); have hcz121_0 : w120.cell? ⟨gb133, 0, none⟩ = some (.int .i64 0) := (blk_cell BK133.out 0).trans rfl; have hcz121_1 : w120.cell? ⟨gb133, 1, none⟩ = some (.slice none 0 0) := (blk_cell BK133.out 1).trans rfl; have hfz121_0 := blk_frozen BK133.out 0; have hfz121_1 := blk_frozen BK133.out 1))
   refine bodyPost_ret (results_ct rfl _ _ gb133 24 #[.int .i64 0, .slice none 0 0] (0, 0) _ rfl (by (with_reducible repeat first | apply bN | apply bD | apply bA); refine blk_put (cs := #[.int .i64 0, .slice none 0 0]) ?_ 1 _ rfl; (with_reducible repeat first | apply bN | apply bD | apply bA); refine blk_put (cs := #[.int .i64 0, .slice none 0 0]) ?_ 0 _ rfl; (with_reducible repeat first | apply bN | apply bD | apply bA); exact BK133.out) Tryz.underlying24 rfl (by kernel_rfl)) rfl ?_; exact ⟨_, by first | rfl | (simp [errW_none, errW_some] <;> rfl) | (simp [*, errW_none, errW_some] <;> rfl), by first | exact Kd.R_nil _ _ _ _ _ | exact Kd.N_nil _ _ _ _ _ | exact Kd.V_nil _ _ _ _ _ | exact Kd.Q_nil _ _ _ _ _ | exact Kd.S_nil _ _ _ _ _, eG HB.out⟩
 ·
  replace c4 := Bool.eq_false_iff.mpr c4; subst c4; replace H : (some (0, ([] : List (S26)), 1)) = some (r1, r2, r3) := by rw [if_neg (show ¬ (false = true) by decide)] at H; exact H
  simp only [Option.some.injEq, Prod.mk.injEq] at H; obtain ⟨rfl, rfl, rfl⟩ := H; go_enter Tryz.func16, Tryz.ntmps16
  go_wp2_with (first | ((with_reducible refine gate_dst (N := 2) rfl ?_); refine box_event ?hg (N := 2) ?hd (cs := #[.int .i64 a0_0, .slice A0_1 l0_1.length c0_1]) (t := 24) ?hr ?_; (case hd => rfl); (case hg => rfl); (case hr => first | (go_simp; done) | (go_simp; rfl)); intro gb131 hg w122 hbox hb; have n0_ := Aside0.mk (below_step (eG HB.out) hb); have n1_ := Aside0.mk (hbox); have n2_ := Aside0.mk ((by rw [hg]; exact (below_size (eG HB.out)) : w.heap.size ≤ gb131)); have n3_ := Aside0.mk ((by rw [hg]; exact (below_size (eG HB.out)) : w.heap.size ≤ gb131)); clear HB; have HB := n0_; have BK131 := n1_; have GW131 := n2_; have GE131 := n3_; have ig131_ := geI GE131; clear n0_ n1_ n2_ n3_; clear hb hbox hg) | ((with_reducible refine gate_dst (N := 3) rfl ?_); refine box_event ?hg (N := 3) ?hd (cs := #[.int .i64 a1_0, .int .i64 a1_1, .int .i64 a1_2]) (t := 26) ?hr ?_; (case hd => rfl); (case hg => rfl); (case hr => first | (go_simp; done) | (go_simp; rfl)); intro gb132 hg w123 hbox hb; have n0_ := Aside0.mk (blk_below (bG BK131.out) hb); have n1_ := Aside0.mk (below_step (eG HB.out) hb); have n2_ := Aside0.mk (hbox); have n3_ := Aside0.mk ((by rw [hg]; exact (below_size (eG HB.out)) : w.heap.size ≤ gb132)); have n4_ := Aside0.mk ((by rw [hg]; exact (below_size (eG HB.out)) : w.heap.size ≤ gb132)); have n5_ := Aside0.mk ((by rw [hg]; exact Nat.ne_of_lt (blk_lt (bG BK131.out)) : gb131 ≠ gb132)); have n6_ := Aside0.mk ((by rw [hg]; exact Nat.ne_of_gt (blk_lt (bG BK131.out)) : gb132 ≠ gb131)); clear BK131; clear HB; have BK131 := n0_; have HB := n1_; have BK132 := n2_; have GW132 := n3_; have GE132 := n4_; have ig132_ := geI GE132; have NB131_132 := n5_; have NB132_131 := n6_; clear n0_ n1_ n2_ n3_ n4_ n5_ n6_; clear hb hbox hg) | ((with_reducible refine gate_dst (N := 4) rfl ?_); refine box_event ?hg (N := 4) ?hd (cs := #[.int .i64 0, .slice none 0 0]) (t := 24) ?hr ?_; (case hd => rfl); (case hg => rfl); (case hr => first | (go_simp; done) | (go_simp; rfl)); intro gb133 hg w124 hbox hb; have n0_ := Aside0.mk (blk_below (bG BK131.out) hb); have n1_ := Aside0.mk (blk_below (bG BK132.out) hb); have n2_ := Aside0.mk (below_step (eG HB.out) hb); have n3_ := Aside0.mk (hbox); have n4_ := Aside0.mk ((by rw [hg]; exact (below_size (eG HB.out)) : w.heap.size ≤ gb133)); have n5_ := Aside0.mk ((by rw [hg]; exact (below_size (eG HB.out)) : w.heap.size ≤ gb133)); have n6_ := Aside0.mk ((by rw [hg]; exact Nat.ne_of_lt (blk_lt (bG BK131.out)) : gb131 ≠ gb133)); have n7_ := Aside0.mk ((by rw [hg]; exact Nat.ne_of_gt (blk_lt (bG BK131.out)) : gb133 ≠ gb131)); have n8_ := Aside0.mk ((by rw [hg]; exact Nat.ne_of_lt (blk_lt (bG BK132.out)) : gb132 ≠ gb133)); have n9_ := Aside0.mk ((by rw [hg]; exact Nat.ne_of_gt (blk_lt (bG BK132.out)) : gb133 ≠ gb132)); clear BK131; clear BK132; clear HB; have BK131 := n0_; have BK132 := n1_; have HB := n2_; have BK133 := n3_; have GW133 := n4_; have GE133 := n5_; have ig133_ := geI GE133; have NB131_133 := n6_; have NB133_131 := n7_; have NB132_133 := n8_; have NB133_132 := n9_; clear n0_ n1_ n2_ n3_ n4_ n5_ n6_ n7_ n8_ n9_; clear hb hbox hg; have hnb125 := NB131_132.out; have hnc125 := NB132_131.out; have hnb126 := NB131_133.out; have hnc126 := NB133_131.out; have hcz127_0 : w124.cell? ⟨gb131, 0, none⟩ = some (.int .i64 a0_0) := (blk_cell BK131.out 0).trans rfl; have hcz127_1 : w124.cell? ⟨gb131, 1, none⟩ = some (.slice A0_1 l0_1.length c0_1) := (blk_cell BK131.out 1).trans rfl; have hfz127_0 := blk_frozen BK131.out 0; have hfz127_1 := blk_frozen BK131.out 1) | ((with_reducible refine gate_callee (f := 41) rfl ?_); refine goesL_ (some 11) rfl rfl Tryz.func41 (by kernel_rfl) rfl #[.agg #[.int .i64 a0_0, .slice A0_1 l0_1.length c0_1]] rfl (by (try simp only [List.map_toArray, List.map_cons, List.map_nil]); first | done | rfl | (simp only [List.length_drop, List.length_take]; rfl)) ?_; (with_reducible refine (tariff_right.calls k a0_0 _ _ l0_1 false _ ?side1 ?side2 A3.out).mono ?_); (case side1 => repeat (first | exact (Kd.C_below HR0_1.out HB.out) | (with_reducible refine Kd.C_alloc ?_ _) | (with_reducible refine Kd.C_drewN ?_ _) | (with_reducible refine Kd.C_drew ?_))); (case side2 => exact HC0_1.out); rintro e w128 ⟨rfl, hb⟩; refine ⟨_, rfl, ?_⟩; have n0_ := Aside0.mk (blk_below (bG BK131.out) hb); have n1_ := Aside0.mk (blk_below (bG BK132.out) hb); have n2_ := Aside0.mk (blk_below (bG BK133.out) hb); have n3_ := Aside0.mk (below_step (eG HB.out) hb); clear BK131; clear BK132; clear BK133; clear HB; have BK131 := n0_; have BK132 := n1_; have BK133 := n2_; have HB := n3_; clear n0_ n1_ n2_ n3_; (try clear hb); (try clear hb2); (try clear hk); (try clear hi); have hnb129 := NB133_132.out; have hnc129 := NB132_133.out; have hcz130_0 : w128.cell? ⟨gb133, 0, none⟩ = some (.int .i64 0) := (blk_cell BK133.out 0).trans rfl; have hcz130_1 : w128.cell? ⟨gb133, 1, none⟩ = some (.slice none 0 0) := (blk_cell BK133.out 1).trans rfl; have hfz130_0 := blk_frozen BK133.out 0; have hfz130_1 := blk_frozen BK133.out 1))
  refine bodyPost_ret (results_ct rfl _ _ gb133 24 #[.int .i64 0, .slice none 0 0] (0, 0) _ rfl (by (with_reducible repeat first | apply bN | apply bD | apply bA); refine blk_put (cs := #[.int .i64 0, .slice none 0 0]) ?_ 1 _ rfl; (with_reducible repeat first | apply bN | apply bD | apply bA); refine blk_put (cs := #[.int .i64 0, .slice none 0 0]) ?_ 0 _ rfl; (with_reducible repeat first | apply bN | apply bD | apply bA); exact BK133.out) Tryz.underlying24 rfl (by kernel_rfl)) rfl ?_; exact ⟨_, by first | rfl | (simp [errW_none, errW_some] <;> rfl) | (simp [*, errW_none, errW_some] <;> rfl), by first | exact Kd.R_nil _ _ _ _ _ | exact Kd.N_nil _ _ _ _ _ | exact Kd.V_nil _ _ _ _ _ | exact Kd.Q_nil _ _ _ _ _ | exact Kd.S_nil _ _ _ _ _, eG HB.out⟩
end Go.Proofs.YtholbmidciapdaaGreatDoor.Pr
namespace Go.Proofs
open Go.Shelf
def Tryz.lays169_ren : Go.Shelf.Ren := ⟨fun | 169 => 54 | n => n, fun | 70 => 73 | 9 => 9 | 0 => 0 | 72 => 76 | 37 => 74 | 127 => 101 | 3 => 3 | 5 => 5 | n => n, fun | n => n⟩
theorem Tryz.lays169 : Go.Proofs.Lays.n169 Tryz.prog Tryz.lays169_ren := {
  mixed := by kernel_rfl
  f169 := Tryz.func54.trans (congrArg some (by kernel_rfl))
  t0 := Tryz.underlying0
  a0 := Tryz.isAgg0
  z0 := Tryz.sizeOf0
  v0 := Tryz.zeroValue0
  t3 := Tryz.underlying3
  a3 := Tryz.isAgg3
  z3 := Tryz.sizeOf3
  v3 := Tryz.zeroValue3
  t9 := Tryz.underlying9
  a9 := Tryz.isAgg9
  z9 := Tryz.sizeOf9
  v9 := Tryz.zeroValue9
  t37 := Tryz.underlying74
  a37 := Tryz.isAgg74
  z37 := Tryz.sizeOf74
  v37 := Tryz.zeroValue74
  t70 := Tryz.underlying73
  a70 := Tryz.isAgg73
  z70 := Tryz.sizeOf73
  v70 := Tryz.zeroValue73
  t72 := Tryz.underlying76
  a72 := Tryz.isAgg76
  z72 := Tryz.sizeOf76
  v72 := Tryz.zeroValue76
  t127 := Tryz.underlying101
  a127 := Tryz.isAgg101
  z127 := Tryz.sizeOf101
  v127 := Tryz.zeroValue101 }
theorem Tryz.Builder_Extra_169 : Builder.Extra Tryz.prog Tryz.lays169_ren := {
  sizeBuilder := by kernel_rfl
  liesBuilder := by kernel_rfl
  t5 := Tryz.underlying5
  a5 := Tryz.isAgg5
  z5 := Tryz.sizeOf5
  v5 := Tryz.zeroValue5
  infoByte := by kernel_rfl
  cellsByte := by kernel_rfl
  sizeByte := by kernel_rfl
  neB5 := by decide }
def Tryz.lays160_ren : Go.Shelf.Ren := ⟨fun | 160 => 82 | 232 => 94 | 231 => 93 | 227 => 95 | 234 => 97 | 233 => 96 | 236 => 99 | 235 => 98 | 228 => 114 | 271 => 116 | 151 => 115 | 197 => 112 | 120 => 128 | 152 => 127 | 260 => 126 | 137 => 132 | 119 => 133 | 224 => 109 | 225 => 108 | 217 => 107 | 266 => 124 | n => n, fun | 9 => 9 | 4 => 4 | 3 => 3 | 5 => 5 | 117 => 123 | 116 => 122 | 0 => 0 | 124 => 126 | 21 => 21 | 105 => 136 | 46 => 96 | 119 => 158 | 139 => 161 | 138 => 160 | n => n, fun | 3 => 7 | 4 => 8 | n => n⟩
theorem Tryz.lays160 : Go.Proofs.Lays.n160 Tryz.prog Tryz.lays160_ren := {
  mixed := by kernel_rfl
  f119 := Tryz.func133.trans (congrArg some (by kernel_rfl))
  f120 := Tryz.func128.trans (congrArg some (by kernel_rfl))
  f137 := Tryz.func132.trans (congrArg some (by kernel_rfl))
  f151 := Tryz.func115.trans (congrArg some (by kernel_rfl))
  f152 := Tryz.func127.trans (congrArg some (by kernel_rfl))
  f160 := Tryz.func82.trans (congrArg some (by kernel_rfl))
  f197 := Tryz.func112.trans (congrArg some (by kernel_rfl))
  f217 := Tryz.func107.trans (congrArg some (by kernel_rfl))
  f224 := Tryz.func109.trans (congrArg some (by kernel_rfl))
  f225 := Tryz.func108.trans (congrArg some (by kernel_rfl))
  f227 := Tryz.func95.trans (congrArg some (by kernel_rfl))
  f228 := Tryz.func114.trans (congrArg some (by kernel_rfl))
  f231 := Tryz.func93.trans (congrArg some (by kernel_rfl))
  f232 := Tryz.func94.trans (congrArg some (by kernel_rfl))
  f233 := Tryz.func96.trans (congrArg some (by kernel_rfl))
  f234 := Tryz.func97.trans (congrArg some (by kernel_rfl))
  f235 := Tryz.func98.trans (congrArg some (by kernel_rfl))
  f236 := Tryz.func99.trans (congrArg some (by kernel_rfl))
  f260 := Tryz.func126.trans (congrArg some (by kernel_rfl))
  f266 := Tryz.func124.trans (congrArg some (by kernel_rfl))
  f271 := Tryz.func116.trans (congrArg some (by kernel_rfl))
  t0 := Tryz.underlying0
  a0 := Tryz.isAgg0
  z0 := Tryz.sizeOf0
  v0 := Tryz.zeroValue0
  t3 := Tryz.underlying3
  a3 := Tryz.isAgg3
  z3 := Tryz.sizeOf3
  v3 := Tryz.zeroValue3
  t4 := Tryz.underlying4
  a4 := Tryz.isAgg4
  z4 := Tryz.sizeOf4
  v4 := Tryz.zeroValue4
  t5 := Tryz.underlying5
  a5 := Tryz.isAgg5
  z5 := Tryz.sizeOf5
  v5 := Tryz.zeroValue5
  t9 := Tryz.underlying9
  a9 := Tryz.isAgg9
  z9 := Tryz.sizeOf9
  v9 := Tryz.zeroValue9
  t21 := Tryz.underlying21
  a21 := Tryz.isAgg21
  z21 := Tryz.sizeOf21
  v21 := Tryz.zeroValue21
  t46 := Tryz.underlying96
  a46 := Tryz.isAgg96
  z46 := Tryz.sizeOf96
  v46 := Tryz.zeroValue96
  t105 := Tryz.underlying136
  a105 := Tryz.isAgg136
  z105 := Tryz.sizeOf136
  v105 := Tryz.zeroValue136
  t116 := Tryz.underlying122
  a116 := Tryz.isAgg122
  z116 := Tryz.sizeOf122
  t117 := Tryz.underlying123
  a117 := Tryz.isAgg123
  z117 := Tryz.sizeOf123
  v117 := Tryz.zeroValue123
  t119 := Tryz.underlying158
  a119 := Tryz.isAgg158
  z119 := Tryz.sizeOf158
  t124 := Tryz.underlying126
  a124 := Tryz.isAgg126
  z124 := Tryz.sizeOf126
  v124 := Tryz.zeroValue126
  t138 := Tryz.underlying160
  a138 := Tryz.isAgg160
  z138 := Tryz.sizeOf160
  v138 := Tryz.zeroValue160
  t139 := Tryz.underlying161
  a139 := Tryz.isAgg161
  z139 := Tryz.sizeOf161
  v139 := Tryz.zeroValue161
  g3 := by kernel_rfl
  g4 := by kernel_rfl }
open Go.RowKit in
/-- (*strings.Builder).String: "String returns the accumulated string.": WHATEVER THE BUILDER HOLDS; THE FORM '_k': OVER 'Lib.IsBuilderF' (a builder that 'String()' may have read), AND WITH THE FRAME THAT REACHES ABOVE THE BUILDER: 'Lib.OthersKept': every block that is not b and is no row of uint8's stands as it stood: the iterator of a range among them. (LAID: no walk: one application.) -/
theorem Tryz.Builder_String_any_k (B b : Nat) (l : List UInt8) (w : World) (h : Lib.IsBuilderF 76 5 B b (Lib.byteCells l) w) (hBw : B ≤ w.heap.size) :
    Calls Tryz.prog 54 #[.pointer (some ⟨b, 0, none⟩)] w fun e w' => e = .returned (.string ⟨l.toArray⟩) ∧ (Lib.IsBuilderF 76 5 B b (Lib.byteCells l) w' ∧ Below B w w' ∧ Lib.OthersKept 5 (some b) w w') := Any.Builder_String_any_k Tryz.lays169 Tryz.Builder_Extra_169 B b l w h hBw
def Tryz.lays172_ren : Go.Shelf.Ren := ⟨fun | 172 => 83 | 244 => 100 | 245 => 101 | 247 => 117 | 279 => 118 | 280 => 119 | 281 => 120 | 282 => 121 | 287 => 129 | 316 => 130 | 171 => 53 | 205 => 131 | 321 => 134 | 322 => 135 | 243 => 69 | 246 => 78 | 283 => 85 | 284 => 86 | 285 => 87 | 286 => 88 | 129 => 103 | 317 => 102 | 318 => 104 | 319 => 105 | 320 => 106 | 337 => 122 | 338 => 123 | n => n, fun | 9 => 9 | 3 => 3 | 75 => 78 | 76 => 79 | 4 => 4 | 5 => 5 | 167 => 140 | 37 => 74 | 0 => 0 | 85 => 141 | 2 => 2 | 168 => 143 | 53 => 53 | 175 => 150 | 46 => 96 | 210 => 154 | 127 => 101 | 145 => 167 | 143 => 165 | 21 => 21 | 171 => 113 | 173 => 116 | 212 => 130 | 51 => 131 | 20 => 20 | 213 => 132 | 232 => 156 | 233 => 157 | 80 => 83 | n => n, fun | 15 => 3 | 16 => 4 | 17 => 1 | 18 => 5 | 19 => 6 | n => n⟩
theorem Tryz.lays172 : Go.Proofs.Lays.n172 Tryz.prog Tryz.lays172_ren := {
  mixed := by kernel_rfl
  f129 := Tryz.func103.trans (congrArg some (by kernel_rfl))
  f171 := Tryz.func53.trans (congrArg some (by kernel_rfl))
  f172 := Tryz.func83.trans (congrArg some (by kernel_rfl))
  f205 := Tryz.func131.trans (congrArg some (by kernel_rfl))
  f243 := Tryz.func69.trans (congrArg some (by kernel_rfl))
  f244 := Tryz.func100.trans (congrArg some (by kernel_rfl))
  f245 := Tryz.func101.trans (congrArg some (by kernel_rfl))
  f246 := Tryz.func78.trans (congrArg some (by kernel_rfl))
  f247 := Tryz.func117.trans (congrArg some (by kernel_rfl))
  f279 := Tryz.func118.trans (congrArg some (by kernel_rfl))
  f280 := Tryz.func119.trans (congrArg some (by kernel_rfl))
  f281 := Tryz.func120.trans (congrArg some (by kernel_rfl))
  f282 := Tryz.func121.trans (congrArg some (by kernel_rfl))
  f283 := Tryz.func85.trans (congrArg some (by kernel_rfl))
  f284 := Tryz.func86.trans (congrArg some (by kernel_rfl))
  f285 := Tryz.func87.trans (congrArg some (by kernel_rfl))
  f286 := Tryz.func88.trans (congrArg some (by kernel_rfl))
  f287 := Tryz.func129.trans (congrArg some (by kernel_rfl))
  f316 := Tryz.func130.trans (congrArg some (by kernel_rfl))
  f317 := Tryz.func102.trans (congrArg some (by kernel_rfl))
  f318 := Tryz.func104.trans (congrArg some (by kernel_rfl))
  f319 := Tryz.func105.trans (congrArg some (by kernel_rfl))
  f320 := Tryz.func106.trans (congrArg some (by kernel_rfl))
  f321 := Tryz.func134.trans (congrArg some (by kernel_rfl))
  f322 := Tryz.func135.trans (congrArg some (by kernel_rfl))
  f337 := Tryz.func122.trans (congrArg some (by kernel_rfl))
  f338 := Tryz.func123.trans (congrArg some (by kernel_rfl))
  t0 := Tryz.underlying0
  a0 := Tryz.isAgg0
  z0 := Tryz.sizeOf0
  v0 := Tryz.zeroValue0
  t2 := Tryz.underlying2
  a2 := Tryz.isAgg2
  z2 := Tryz.sizeOf2
  v2 := Tryz.zeroValue2
  t3 := Tryz.underlying3
  a3 := Tryz.isAgg3
  z3 := Tryz.sizeOf3
  v3 := Tryz.zeroValue3
  t4 := Tryz.underlying4
  a4 := Tryz.isAgg4
  z4 := Tryz.sizeOf4
  v4 := Tryz.zeroValue4
  t5 := Tryz.underlying5
  a5 := Tryz.isAgg5
  z5 := Tryz.sizeOf5
  v5 := Tryz.zeroValue5
  t9 := Tryz.underlying9
  a9 := Tryz.isAgg9
  z9 := Tryz.sizeOf9
  v9 := Tryz.zeroValue9
  t20 := Tryz.underlying20
  a20 := Tryz.isAgg20
  z20 := Tryz.sizeOf20
  v20 := Tryz.zeroValue20
  t21 := Tryz.underlying21
  a21 := Tryz.isAgg21
  z21 := Tryz.sizeOf21
  v21 := Tryz.zeroValue21
  t37 := Tryz.underlying74
  a37 := Tryz.isAgg74
  z37 := Tryz.sizeOf74
  v37 := Tryz.zeroValue74
  t46 := Tryz.underlying96
  a46 := Tryz.isAgg96
  z46 := Tryz.sizeOf96
  v46 := Tryz.zeroValue96
  t51 := Tryz.underlying131
  a51 := Tryz.isAgg131
  z51 := Tryz.sizeOf131
  v51 := Tryz.zeroValue131
  t53 := Tryz.underlying53
  a53 := Tryz.isAgg53
  z53 := Tryz.sizeOf53
  v53 := Tryz.zeroValue53
  t75 := Tryz.underlying78
  a75 := Tryz.isAgg78
  z75 := Tryz.sizeOf78
  v75 := Tryz.zeroValue78
  t76 := Tryz.underlying79
  a76 := Tryz.isAgg79
  z76 := Tryz.sizeOf79
  v76 := Tryz.zeroValue79
  t85 := Tryz.underlying141
  a85 := Tryz.isAgg141
  z85 := Tryz.sizeOf141
  v85 := Tryz.zeroValue141
  t127 := Tryz.underlying101
  a127 := Tryz.isAgg101
  z127 := Tryz.sizeOf101
  v127 := Tryz.zeroValue101
  t143 := Tryz.underlying165
  a143 := Tryz.isAgg165
  z143 := Tryz.sizeOf165
  v143 := Tryz.zeroValue165
  t145 := Tryz.underlying167
  a145 := Tryz.isAgg167
  z145 := Tryz.sizeOf167
  v145 := Tryz.zeroValue167
  t167 := Tryz.underlying140
  a167 := Tryz.isAgg140
  z167 := Tryz.sizeOf140
  v167 := Tryz.zeroValue140
  t168 := Tryz.underlying143
  a168 := Tryz.isAgg143
  z168 := Tryz.sizeOf143
  v168 := Tryz.zeroValue143
  t171 := Tryz.underlying113
  a171 := Tryz.isAgg113
  z171 := Tryz.sizeOf113
  v171 := Tryz.zeroValue113
  t173 := Tryz.underlying116
  a173 := Tryz.isAgg116
  z173 := Tryz.sizeOf116
  v173 := Tryz.zeroValue116
  t175 := Tryz.underlying150
  a175 := Tryz.isAgg150
  z175 := Tryz.sizeOf150
  v175 := Tryz.zeroValue150
  t210 := Tryz.underlying154
  a210 := Tryz.isAgg154
  z210 := Tryz.sizeOf154
  v210 := Tryz.zeroValue154
  t212 := Tryz.underlying130
  a212 := Tryz.isAgg130
  z212 := Tryz.sizeOf130
  v212 := Tryz.zeroValue130
  t213 := Tryz.underlying132
  a213 := Tryz.isAgg132
  z213 := Tryz.sizeOf132
  t232 := Tryz.underlying156
  a232 := Tryz.isAgg156
  z232 := Tryz.sizeOf156
  v232 := Tryz.zeroValue156
  t233 := Tryz.underlying157
  a233 := Tryz.isAgg157
  z233 := Tryz.sizeOf157
  v233 := Tryz.zeroValue157
  g15 := by kernel_rfl
  g16 := by kernel_rfl
  g17 := by kernel_rfl
  g18 := by kernel_rfl
  g19 := by kernel_rfl }
open Go.RowKit in
/-- strconv.Atoi: "Atoi is equivalent to ParseInt(s, 10, 0), converted to type int.": AT A DECIMAL NUMERAL OF AT MOST 18 BYTES: its value, and a nil error. The world behind the call: the one new row that the library's '[]byte(s)' lays. (LAID: no walk: one application.) -/
theorem Tryz.strconv_Atoi (s : ByteArray) (n : Int) (hl : s.size ≤ 18) (h : Lib.atoi s.data.toList = some n) (w : World) :
    Calls Tryz.prog 83 #[.string s] w fun e w' => e = .returned (.tuple #[.int .i64 n, .nilIface]) ∧ ∃ t, w' = Lib.bytesWorld w 5 t := Any.strconv_Atoi Tryz.lays172 s n hl h w
def Tryz.laysM171_ren : Go.Shelf.Ren := ⟨fun | 171 => 53 | 243 => 69 | 246 => 78 | 283 => 85 | 284 => 86 | 285 => 87 | 286 => 88 | 129 => 103 | 317 => 102 | 318 => 104 | 319 => 105 | 320 => 106 | 337 => 122 | 338 => 123 | n => n, fun | 3 => 3 | 9 => 9 | 2 => 2 | 4 => 4 | 171 => 113 | 0 => 0 | 53 => 53 | 37 => 74 | 5 => 5 | 173 => 116 | 212 => 130 | 51 => 131 | 20 => 20 | 213 => 132 | 46 => 96 | 232 => 156 | 233 => 157 | n => n, fun | 17 => 1 | 18 => 5 | 19 => 6 | n => n⟩
theorem Tryz.laysM171 : Go.Proofs.LaysM.n171 Tryz.prog Tryz.laysM171_ren := {
  mixed := by kernel_rfl
  f129 := Tryz.func103.trans (congrArg some (by kernel_rfl))
  f171 := Tryz.func53.trans (congrArg some (by kernel_rfl))
  f243 := Tryz.func69.trans (congrArg some (by kernel_rfl))
  f246 := Tryz.func78.trans (congrArg some (by kernel_rfl))
  f283 := Tryz.func85.trans (congrArg some (by kernel_rfl))
  f284 := Tryz.func86.trans (congrArg some (by kernel_rfl))
  f285 := Tryz.func87.trans (congrArg some (by kernel_rfl))
  f286 := Tryz.func88.trans (congrArg some (by kernel_rfl))
  f317 := Tryz.func102.trans (congrArg some (by kernel_rfl))
  f318 := Tryz.func104.trans (congrArg some (by kernel_rfl))
  f319 := Tryz.func105.trans (congrArg some (by kernel_rfl))
  f320 := Tryz.func106.trans (congrArg some (by kernel_rfl))
  f337 := Tryz.func122.trans (congrArg some (by kernel_rfl))
  f338 := Tryz.func123.trans (congrArg some (by kernel_rfl))
  t0 := Tryz.underlying0
  a0 := Tryz.isAgg0
  z0 := Tryz.sizeOf0
  v0 := Tryz.zeroValue0
  t2 := Tryz.underlying2
  a2 := Tryz.isAgg2
  z2 := Tryz.sizeOf2
  v2 := Tryz.zeroValue2
  t3 := Tryz.underlying3
  a3 := Tryz.isAgg3
  z3 := Tryz.sizeOf3
  v3 := Tryz.zeroValue3
  t4 := Tryz.underlying4
  a4 := Tryz.isAgg4
  z4 := Tryz.sizeOf4
  v4 := Tryz.zeroValue4
  t5 := Tryz.underlying5
  a5 := Tryz.isAgg5
  z5 := Tryz.sizeOf5
  v5 := Tryz.zeroValue5
  t9 := Tryz.underlying9
  a9 := Tryz.isAgg9
  z9 := Tryz.sizeOf9
  v9 := Tryz.zeroValue9
  t20 := Tryz.underlying20
  a20 := Tryz.isAgg20
  z20 := Tryz.sizeOf20
  v20 := Tryz.zeroValue20
  t37 := Tryz.underlying74
  a37 := Tryz.isAgg74
  z37 := Tryz.sizeOf74
  v37 := Tryz.zeroValue74
  t46 := Tryz.underlying96
  a46 := Tryz.isAgg96
  z46 := Tryz.sizeOf96
  v46 := Tryz.zeroValue96
  t51 := Tryz.underlying131
  a51 := Tryz.isAgg131
  z51 := Tryz.sizeOf131
  v51 := Tryz.zeroValue131
  t53 := Tryz.underlying53
  a53 := Tryz.isAgg53
  z53 := Tryz.sizeOf53
  v53 := Tryz.zeroValue53
  t171 := Tryz.underlying113
  a171 := Tryz.isAgg113
  z171 := Tryz.sizeOf113
  v171 := Tryz.zeroValue113
  t173 := Tryz.underlying116
  a173 := Tryz.isAgg116
  z173 := Tryz.sizeOf116
  v173 := Tryz.zeroValue116
  t212 := Tryz.underlying130
  a212 := Tryz.isAgg130
  z212 := Tryz.sizeOf130
  v212 := Tryz.zeroValue130
  t213 := Tryz.underlying132
  a213 := Tryz.isAgg132
  z213 := Tryz.sizeOf132
  t232 := Tryz.underlying156
  a232 := Tryz.isAgg156
  z232 := Tryz.sizeOf156
  v232 := Tryz.zeroValue156
  t233 := Tryz.underlying157
  a233 := Tryz.isAgg157
  z233 := Tryz.sizeOf157
  v233 := Tryz.zeroValue157
  g17 := by kernel_rfl
  g18 := by kernel_rfl
  g19 := by kernel_rfl
  i0 := by kernel_rfl
  i2 := by kernel_rfl
  i3 := by kernel_rfl
  i4 := by kernel_rfl
  i5 := by kernel_rfl
  i9 := by kernel_rfl
  i20 := by kernel_rfl
  i37 := by kernel_rfl
  i46 := by kernel_rfl
  i51 := by kernel_rfl
  i53 := by kernel_rfl
  i171 := by kernel_rfl
  i173 := by kernel_rfl
  i212 := by kernel_rfl
  i232 := by kernel_rfl
  i233 := by kernel_rfl
  m17 := by kernel_rfl
  m18 := by kernel_rfl
  m19 := by kernel_rfl }
open Go.RowKit Go.Sort Go.Lib in
/-- strconv.Itoa: "Itoa is equivalent to FormatInt(int64(i), 10).": i's DECIMAL NUMERAL ('Lib.itoa': a '-' where i is negative, then the digits), FOR EVERY int. The world behind the call: the world before it, new blocks behind the heap (the library's 'var a [24]byte'), draws. (LAID: no walk: one application.) -/
theorem Tryz.strconv_Itoa (n : Int) (h0 : -9223372036854775808 ≤ n) (h1 : n ≤ 9223372036854775807) (w : World) (htab : Lib.TabIs Tryz.prog w "internal/strconv.uint64pow10" .u64 Lib.pow10Tab) :
    Calls Tryz.prog 53 #[.int .i64 n] w fun e w' => e = .returned (.string ⟨(Lib.itoa n).toArray⟩) ∧ ∃ k os, w' = grow (w.drewN k) os := Any.strconv_Itoa Tryz.laysM171 n h0 h1 w htab
def Tryz.laysC172_ren : Go.Shelf.Ren := ⟨fun | 172 => 83 | 244 => 100 | 245 => 101 | 247 => 117 | 279 => 118 | 280 => 119 | 281 => 120 | 282 => 121 | 287 => 129 | 316 => 130 | 171 => 53 | 205 => 131 | 321 => 134 | 322 => 135 | 243 => 69 | 246 => 78 | 283 => 85 | 284 => 86 | 285 => 87 | 286 => 88 | 129 => 103 | 317 => 102 | 318 => 104 | 319 => 105 | 320 => 106 | 337 => 122 | 338 => 123 | n => n, fun | 9 => 9 | 3 => 3 | 75 => 78 | 76 => 79 | 4 => 4 | 5 => 5 | 167 => 140 | 37 => 74 | 0 => 0 | 85 => 141 | 2 => 2 | 168 => 143 | 53 => 53 | 175 => 150 | 46 => 96 | 210 => 154 | 127 => 101 | 145 => 167 | 143 => 165 | 21 => 21 | 171 => 113 | 173 => 116 | 212 => 130 | 51 => 131 | 20 => 20 | 213 => 132 | 232 => 156 | 233 => 157 | 80 => 83 | n => n, fun | 15 => 3 | 16 => 4 | 17 => 1 | 18 => 5 | 19 => 6 | n => n⟩
theorem Tryz.laysC172 : Go.Proofs.LaysC.n172 Tryz.prog Tryz.laysC172_ren := {
  mixed := by kernel_rfl
  f129 := Tryz.func103.trans (congrArg some (by kernel_rfl))
  f171 := Tryz.func53.trans (congrArg some (by kernel_rfl))
  f172 := Tryz.func83.trans (congrArg some (by kernel_rfl))
  f205 := Tryz.func131.trans (congrArg some (by kernel_rfl))
  f243 := Tryz.func69.trans (congrArg some (by kernel_rfl))
  f244 := Tryz.func100.trans (congrArg some (by kernel_rfl))
  f245 := Tryz.func101.trans (congrArg some (by kernel_rfl))
  f246 := Tryz.func78.trans (congrArg some (by kernel_rfl))
  f247 := Tryz.func117.trans (congrArg some (by kernel_rfl))
  f279 := Tryz.func118.trans (congrArg some (by kernel_rfl))
  f280 := Tryz.func119.trans (congrArg some (by kernel_rfl))
  f281 := Tryz.func120.trans (congrArg some (by kernel_rfl))
  f282 := Tryz.func121.trans (congrArg some (by kernel_rfl))
  f283 := Tryz.func85.trans (congrArg some (by kernel_rfl))
  f284 := Tryz.func86.trans (congrArg some (by kernel_rfl))
  f285 := Tryz.func87.trans (congrArg some (by kernel_rfl))
  f286 := Tryz.func88.trans (congrArg some (by kernel_rfl))
  f287 := Tryz.func129.trans (congrArg some (by kernel_rfl))
  f316 := Tryz.func130.trans (congrArg some (by kernel_rfl))
  f317 := Tryz.func102.trans (congrArg some (by kernel_rfl))
  f318 := Tryz.func104.trans (congrArg some (by kernel_rfl))
  f319 := Tryz.func105.trans (congrArg some (by kernel_rfl))
  f320 := Tryz.func106.trans (congrArg some (by kernel_rfl))
  f321 := Tryz.func134.trans (congrArg some (by kernel_rfl))
  f322 := Tryz.func135.trans (congrArg some (by kernel_rfl))
  f337 := Tryz.func122.trans (congrArg some (by kernel_rfl))
  f338 := Tryz.func123.trans (congrArg some (by kernel_rfl))
  t0 := Tryz.underlying0
  a0 := Tryz.isAgg0
  z0 := Tryz.sizeOf0
  v0 := Tryz.zeroValue0
  t2 := Tryz.underlying2
  a2 := Tryz.isAgg2
  z2 := Tryz.sizeOf2
  v2 := Tryz.zeroValue2
  t3 := Tryz.underlying3
  a3 := Tryz.isAgg3
  z3 := Tryz.sizeOf3
  v3 := Tryz.zeroValue3
  t4 := Tryz.underlying4
  a4 := Tryz.isAgg4
  z4 := Tryz.sizeOf4
  v4 := Tryz.zeroValue4
  t5 := Tryz.underlying5
  a5 := Tryz.isAgg5
  z5 := Tryz.sizeOf5
  v5 := Tryz.zeroValue5
  t9 := Tryz.underlying9
  a9 := Tryz.isAgg9
  z9 := Tryz.sizeOf9
  v9 := Tryz.zeroValue9
  t20 := Tryz.underlying20
  a20 := Tryz.isAgg20
  z20 := Tryz.sizeOf20
  v20 := Tryz.zeroValue20
  t21 := Tryz.underlying21
  a21 := Tryz.isAgg21
  z21 := Tryz.sizeOf21
  v21 := Tryz.zeroValue21
  t37 := Tryz.underlying74
  a37 := Tryz.isAgg74
  z37 := Tryz.sizeOf74
  v37 := Tryz.zeroValue74
  t46 := Tryz.underlying96
  a46 := Tryz.isAgg96
  z46 := Tryz.sizeOf96
  v46 := Tryz.zeroValue96
  t51 := Tryz.underlying131
  a51 := Tryz.isAgg131
  z51 := Tryz.sizeOf131
  v51 := Tryz.zeroValue131
  t53 := Tryz.underlying53
  a53 := Tryz.isAgg53
  z53 := Tryz.sizeOf53
  v53 := Tryz.zeroValue53
  t75 := Tryz.underlying78
  a75 := Tryz.isAgg78
  z75 := Tryz.sizeOf78
  v75 := Tryz.zeroValue78
  t76 := Tryz.underlying79
  a76 := Tryz.isAgg79
  z76 := Tryz.sizeOf79
  v76 := Tryz.zeroValue79
  t85 := Tryz.underlying141
  a85 := Tryz.isAgg141
  z85 := Tryz.sizeOf141
  v85 := Tryz.zeroValue141
  t127 := Tryz.underlying101
  a127 := Tryz.isAgg101
  z127 := Tryz.sizeOf101
  v127 := Tryz.zeroValue101
  t143 := Tryz.underlying165
  a143 := Tryz.isAgg165
  z143 := Tryz.sizeOf165
  v143 := Tryz.zeroValue165
  t145 := Tryz.underlying167
  a145 := Tryz.isAgg167
  z145 := Tryz.sizeOf167
  v145 := Tryz.zeroValue167
  t167 := Tryz.underlying140
  a167 := Tryz.isAgg140
  z167 := Tryz.sizeOf140
  v167 := Tryz.zeroValue140
  t168 := Tryz.underlying143
  a168 := Tryz.isAgg143
  z168 := Tryz.sizeOf143
  v168 := Tryz.zeroValue143
  t171 := Tryz.underlying113
  a171 := Tryz.isAgg113
  z171 := Tryz.sizeOf113
  v171 := Tryz.zeroValue113
  t173 := Tryz.underlying116
  a173 := Tryz.isAgg116
  z173 := Tryz.sizeOf116
  v173 := Tryz.zeroValue116
  t175 := Tryz.underlying150
  a175 := Tryz.isAgg150
  z175 := Tryz.sizeOf150
  v175 := Tryz.zeroValue150
  t210 := Tryz.underlying154
  a210 := Tryz.isAgg154
  z210 := Tryz.sizeOf154
  v210 := Tryz.zeroValue154
  t212 := Tryz.underlying130
  a212 := Tryz.isAgg130
  z212 := Tryz.sizeOf130
  v212 := Tryz.zeroValue130
  t213 := Tryz.underlying132
  a213 := Tryz.isAgg132
  z213 := Tryz.sizeOf132
  t232 := Tryz.underlying156
  a232 := Tryz.isAgg156
  z232 := Tryz.sizeOf156
  v232 := Tryz.zeroValue156
  t233 := Tryz.underlying157
  a233 := Tryz.isAgg157
  z233 := Tryz.sizeOf157
  v233 := Tryz.zeroValue157
  g15 := by kernel_rfl
  g16 := by kernel_rfl
  g17 := by kernel_rfl
  g18 := by kernel_rfl
  g19 := by kernel_rfl
  t80 := Tryz.underlying83
  a80 := Tryz.isAgg83
  z80 := Tryz.sizeOf83
  v80 := Tryz.zeroValue83
  i0 := by kernel_rfl
  i2 := by kernel_rfl
  i3 := by kernel_rfl
  i4 := by kernel_rfl
  i5 := by kernel_rfl
  i9 := by kernel_rfl
  i20 := by kernel_rfl
  i21 := by kernel_rfl
  i37 := by kernel_rfl
  i46 := by kernel_rfl
  i51 := by kernel_rfl
  i53 := by kernel_rfl
  i75 := by kernel_rfl
  i76 := by kernel_rfl
  i80 := by kernel_rfl
  i85 := by kernel_rfl
  i127 := by kernel_rfl
  i143 := by kernel_rfl
  i145 := by kernel_rfl
  i167 := by kernel_rfl
  i168 := by kernel_rfl
  i171 := by kernel_rfl
  i173 := by kernel_rfl
  i175 := by kernel_rfl
  i210 := by kernel_rfl
  i212 := by kernel_rfl
  i232 := by kernel_rfl
  i233 := by kernel_rfl
  m15 := by kernel_rfl
  m16 := by kernel_rfl
  m17 := by kernel_rfl
  m18 := by kernel_rfl
  m19 := by kernel_rfl
  c0 := by kernel_rfl
  c2 := by kernel_rfl
  c3 := by kernel_rfl
  c4 := by kernel_rfl
  c5 := by kernel_rfl
  c9 := by kernel_rfl
  c20 := by kernel_rfl
  c21 := by kernel_rfl
  c37 := by kernel_rfl
  c46 := by kernel_rfl
  c51 := by kernel_rfl
  c53 := by kernel_rfl
  c75 := by kernel_rfl
  c76 := by kernel_rfl
  c80 := by kernel_rfl
  c85 := by kernel_rfl
  c127 := by kernel_rfl
  c143 := by kernel_rfl
  c145 := by kernel_rfl
  c167 := by kernel_rfl
  c168 := by kernel_rfl
  c171 := by kernel_rfl
  c173 := by kernel_rfl
  c175 := by kernel_rfl
  c210 := by kernel_rfl
  c212 := by kernel_rfl
  c213 := by kernel_rfl
  c232 := by kernel_rfl
  c233 := by kernel_rfl }
open Go.RowKit in
/-- strconv.Atoi, AT EVERY STRING THAT SPELLS AN int ('Lib.atoiAll .. = .ok v'; of whatever length: leading zeros count): v, AND NO ERROR. The world: as it was, or with the one new row that '[]byte(..)' lays. (LAID: no walk: one application.) -/
theorem Tryz.strconv_Atoi_ok (s : ByteArray) (hmax : s.size ≤ 9223372036854775806) (v : Int) (h : Lib.atoiAll s.data.toList = .ok v) (w : World) :
    Calls Tryz.prog 83 #[.string s] w fun e w' => e = .returned (.tuple #[.int .i64 v, .nilIface]) ∧ (w' = w ∨ ∃ t, w' = Lib.bytesWorld w 5 t) := Any.strconv_Atoi_ok Tryz.laysC172 s hmax v h w
open Go.RowKit in
theorem Tryz.strconv_Atoi_syntax_var (s : ByteArray) (hlim : s.size ≤ 281474976710656) (h : Lib.atoiAll s.data.toList = Lib.NumEnd.syntax) (tp : TypeId) (p : Value) (w : World) (hvar : w.var? Tryz.prog "strconv.ErrSyntax" = some #[.iface tp p]) :
    Calls Tryz.prog 83 #[.string s] w fun e w' => ∃ N, e = .returned (.tuple #[.int .i64 0, .iface 143 (.pointer (some ⟨N, 0, none⟩))]) ∧ w.heap.size ≤ N ∧ w'.heap[N]? = some (.cells #[.string ⟨#[65, 116, 111, 105]⟩, .string s, .iface tp p] 154 (0, 0)) ∧ Below w.heap.size w w' := Any.strconv_Atoi_syntax_var Tryz.laysC172 s hlim h tp p w hvar
open Go.RowKit in
theorem Tryz.strconv_Atoi_range_var (s : ByteArray) (hlim : s.size ≤ 281474976710656) (h : Lib.atoiAll s.data.toList = .range) (tp : TypeId) (p : Value) (w : World) (hvar : w.var? Tryz.prog "strconv.ErrRange" = some #[.iface tp p]) :
    Calls Tryz.prog 83 #[.string s] w fun e w' => ∃ N, e = .returned (.tuple #[.int .i64 (Lib.atoiSat s.data.toList), .iface 143 (.pointer (some ⟨N, 0, none⟩))]) ∧ w.heap.size ≤ N ∧ w'.heap[N]? = some (.cells #[.string ⟨#[65, 116, 111, 105]⟩, .string s, .iface tp p] 154 (0, 0)) ∧ Below w.heap.size w w' := Any.strconv_Atoi_range_var Tryz.laysC172 s hlim h tp p w hvar
def Tryz.lays145_ren : Go.Shelf.Ren := ⟨fun | 145 => 71 | 220 => 79 | 219 => 89 | 217 => 107 | 225 => 108 | 224 => 109 | 267 => 110 | 266 => 124 | 314 => 125 | n => n, fun | 9 => 9 | 4 => 4 | 59 => 92 | 3 => 3 | 5 => 5 | 46 => 96 | 146 => 147 | 51 => 131 | n => n, fun | 1 => 2 | n => n⟩
theorem Tryz.lays145 : Go.Proofs.Lays.n145 Tryz.prog Tryz.lays145_ren := {
  mixed := by kernel_rfl
  f145 := Tryz.func71.trans (congrArg some (by kernel_rfl))
  f217 := Tryz.func107.trans (congrArg some (by kernel_rfl))
  f219 := Tryz.func89.trans (congrArg some (by kernel_rfl))
  f220 := Tryz.func79.trans (congrArg some (by kernel_rfl))
  f224 := Tryz.func109.trans (congrArg some (by kernel_rfl))
  f225 := Tryz.func108.trans (congrArg some (by kernel_rfl))
  f266 := Tryz.func124.trans (congrArg some (by kernel_rfl))
  f267 := Tryz.func110.trans (congrArg some (by kernel_rfl))
  f314 := Tryz.func125.trans (congrArg some (by kernel_rfl))
  t3 := Tryz.underlying3
  a3 := Tryz.isAgg3
  z3 := Tryz.sizeOf3
  v3 := Tryz.zeroValue3
  t4 := Tryz.underlying4
  a4 := Tryz.isAgg4
  z4 := Tryz.sizeOf4
  v4 := Tryz.zeroValue4
  t5 := Tryz.underlying5
  a5 := Tryz.isAgg5
  z5 := Tryz.sizeOf5
  v5 := Tryz.zeroValue5
  t9 := Tryz.underlying9
  a9 := Tryz.isAgg9
  z9 := Tryz.sizeOf9
  v9 := Tryz.zeroValue9
  t46 := Tryz.underlying96
  a46 := Tryz.isAgg96
  z46 := Tryz.sizeOf96
  v46 := Tryz.zeroValue96
  t51 := Tryz.underlying131
  a51 := Tryz.isAgg131
  z51 := Tryz.sizeOf131
  v51 := Tryz.zeroValue131
  t59 := Tryz.underlying92
  a59 := Tryz.isAgg92
  z59 := Tryz.sizeOf92
  v59 := Tryz.zeroValue92
  t146 := Tryz.underlying147
  a146 := Tryz.isAgg147
  z146 := Tryz.sizeOf147
  v146 := Tryz.zeroValue147
  g1 := by kernel_rfl }
open Go.RowKit Go.Lib in
/-- strings.Cut: "Cut slices s around the first instance of sep, returning the text before and after sep. The found result reports whether sep appears in s. If sep does not appear in s, cut returns s, "", false.": IT RETURNS 'Lib.cut s sep'; the world is as it was but for the count of draws. (LAID: no walk: one application.) -/
theorem Tryz.strings_Cut (s sep : ByteArray) (m : Int) (w : World) (hs : s.size < 4294967281) (hm : w.cell? ⟨2, 0, none⟩ = some (.int .i64 m)) :
    Calls Tryz.prog 71 #[.string s, .string sep] w fun e w' => e = .returned (.tuple #[.string ⟨(Lib.cut s.data.toList sep.data.toList).1.toArray⟩, .string ⟨(Lib.cut s.data.toList sep.data.toList).2.1.toArray⟩, .bool (Lib.cut s.data.toList sep.data.toList).2.2]) ∧ ∃ n, w' = w.drewN n := Any.strings_Cut Tryz.lays145 s sep m w hs hm
def Tryz.lays206_ren : Go.Shelf.Ren := ⟨fun | 206 => 80 | n => n, fun | 9 => 9 | 4 => 4 | 3 => 3 | n => n, fun | n => n⟩
theorem Tryz.lays206 : Go.Proofs.Lays.n206 Tryz.prog Tryz.lays206_ren := {
  mixed := by kernel_rfl
  f206 := Tryz.func80.trans (congrArg some (by kernel_rfl))
  t3 := Tryz.underlying3
  a3 := Tryz.isAgg3
  z3 := Tryz.sizeOf3
  v3 := Tryz.zeroValue3
  t4 := Tryz.underlying4
  a4 := Tryz.isAgg4
  z4 := Tryz.sizeOf4
  v4 := Tryz.zeroValue4
  t9 := Tryz.underlying9
  a9 := Tryz.isAgg9
  z9 := Tryz.sizeOf9
  v9 := Tryz.zeroValue9 }
open Go.RowKit Go.Lib in
/-- internal/stringslite.HasPrefix (what strings.HasPrefix calls). (LAID: no walk: one application.) -/
theorem Tryz.stringslite_HasPrefix (s p : ByteArray) (w : World) :
    Calls Tryz.prog 80 #[.string s, .string p] w fun e w' => e = .returned (.bool (Lib.hasPrefix s.data.toList p.data.toList)) ∧ w' = w := Any.stringslite_HasPrefix Tryz.lays206 s p w
def Tryz.lays146_ren : Go.Shelf.Ren := ⟨fun | 146 => 73 | 221 => 81 | 268 => 90 | 138 => 91 | 143 => 92 | 195 => 111 | 197 => 112 | 218 => 113 | 219 => 89 | 260 => 126 | 217 => 107 | 225 => 108 | 224 => 109 | 267 => 110 | 266 => 124 | 314 => 125 | n => n, fun | 9 => 9 | 31 => 90 | 3 => 3 | 4 => 4 | 0 => 0 | 105 => 136 | 21 => 21 | 5 => 5 | 46 => 96 | 119 => 158 | 139 => 161 | 138 => 160 | 146 => 147 | 51 => 131 | n => n, fun | 1 => 2 | 3 => 7 | 4 => 8 | n => n⟩
theorem Tryz.lays146 : Go.Proofs.Lays.n146 Tryz.prog Tryz.lays146_ren := {
  mixed := by kernel_rfl
  f138 := Tryz.func91.trans (congrArg some (by kernel_rfl))
  f143 := Tryz.func92.trans (congrArg some (by kernel_rfl))
  f146 := Tryz.func73.trans (congrArg some (by kernel_rfl))
  f195 := Tryz.func111.trans (congrArg some (by kernel_rfl))
  f197 := Tryz.func112.trans (congrArg some (by kernel_rfl))
  f217 := Tryz.func107.trans (congrArg some (by kernel_rfl))
  f218 := Tryz.func113.trans (congrArg some (by kernel_rfl))
  f219 := Tryz.func89.trans (congrArg some (by kernel_rfl))
  f221 := Tryz.func81.trans (congrArg some (by kernel_rfl))
  f224 := Tryz.func109.trans (congrArg some (by kernel_rfl))
  f225 := Tryz.func108.trans (congrArg some (by kernel_rfl))
  f260 := Tryz.func126.trans (congrArg some (by kernel_rfl))
  f266 := Tryz.func124.trans (congrArg some (by kernel_rfl))
  f267 := Tryz.func110.trans (congrArg some (by kernel_rfl))
  f268 := Tryz.func90.trans (congrArg some (by kernel_rfl))
  f314 := Tryz.func125.trans (congrArg some (by kernel_rfl))
  t0 := Tryz.underlying0
  a0 := Tryz.isAgg0
  z0 := Tryz.sizeOf0
  v0 := Tryz.zeroValue0
  t3 := Tryz.underlying3
  a3 := Tryz.isAgg3
  z3 := Tryz.sizeOf3
  v3 := Tryz.zeroValue3
  t4 := Tryz.underlying4
  a4 := Tryz.isAgg4
  z4 := Tryz.sizeOf4
  v4 := Tryz.zeroValue4
  t5 := Tryz.underlying5
  a5 := Tryz.isAgg5
  z5 := Tryz.sizeOf5
  v5 := Tryz.zeroValue5
  t9 := Tryz.underlying9
  a9 := Tryz.isAgg9
  z9 := Tryz.sizeOf9
  v9 := Tryz.zeroValue9
  t21 := Tryz.underlying21
  a21 := Tryz.isAgg21
  z21 := Tryz.sizeOf21
  v21 := Tryz.zeroValue21
  t31 := Tryz.underlying90
  a31 := Tryz.isAgg90
  z31 := Tryz.sizeOf90
  v31 := Tryz.zeroValue90
  t46 := Tryz.underlying96
  a46 := Tryz.isAgg96
  z46 := Tryz.sizeOf96
  v46 := Tryz.zeroValue96
  t51 := Tryz.underlying131
  a51 := Tryz.isAgg131
  z51 := Tryz.sizeOf131
  v51 := Tryz.zeroValue131
  t105 := Tryz.underlying136
  a105 := Tryz.isAgg136
  z105 := Tryz.sizeOf136
  v105 := Tryz.zeroValue136
  t119 := Tryz.underlying158
  a119 := Tryz.isAgg158
  z119 := Tryz.sizeOf158
  t138 := Tryz.underlying160
  a138 := Tryz.isAgg160
  z138 := Tryz.sizeOf160
  v138 := Tryz.zeroValue160
  t139 := Tryz.underlying161
  a139 := Tryz.isAgg161
  z139 := Tryz.sizeOf161
  v139 := Tryz.zeroValue161
  t146 := Tryz.underlying147
  a146 := Tryz.isAgg147
  z146 := Tryz.sizeOf147
  v146 := Tryz.zeroValue147
  g1 := by kernel_rfl
  g3 := by kernel_rfl
  g4 := by kernel_rfl }
open Go.RowKit Go.Lib in
/-- strings.Split. (LAID: no walk: one application.) -/
theorem Tryz.strings_Split (s sep : ByteArray) (m : Int) (w : World) (hs : s.size < 4294967281) (hm : w.cell? ⟨2, 0, none⟩ = some (.int .i64 m)) (h1 : 1 ≤ sep.size) :
    Calls Tryz.prog 73 #[.string s, .string sep] w fun e w' =>
      e = .returned (.slice (some ⟨w.heap.size, 0, none⟩) (Lib.countB s sep + 1) (Lib.countB s sep + 1)) ∧ w' = w.alloc (.cells ((Lib.splitB sep 0 (Lib.countB s sep) s).map Value.string).toArray 9) := Any.strings_Split Tryz.lays146 (by kernel_rfl) s sep m w hs hm h1
def Tryz.lays264_ren : Go.Shelf.Ren := ⟨fun | 264 => 32 | n => n, fun | 53 => 53 | 46 => 96 | n => n, fun | n => n⟩
theorem Tryz.lays264 : Go.Proofs.Lays.n264 Tryz.prog Tryz.lays264_ren := {
  mixed := by kernel_rfl
  f264 := Tryz.func32.trans (congrArg some (by kernel_rfl))
  t46 := Tryz.underlying96
  a46 := Tryz.isAgg96
  z46 := Tryz.sizeOf96
  v46 := Tryz.zeroValue96
  t53 := Tryz.underlying53
  a53 := Tryz.isAgg53
  z53 := Tryz.sizeOf53
  v53 := Tryz.zeroValue53 }
open Go.RowKit Go.Lib in
theorem Tryz.bits_Mul64 (x y : Nat) (hx : x < 18446744073709551616) (hy : y < 18446744073709551616) (w : World) :
    Calls Tryz.prog 32 #[.int .u64 x, .int .u64 y] w fun e w' => e = .returned (.tuple #[.int .u64 ((x * y / 18446744073709551616 : Nat) : Int), .int .u64 ((x * y % 18446744073709551616 : Nat) : Int)]) ∧ w' = w := Any.bits_Mul64 Tryz.lays264 x y hx hy w
end Go.Proofs
namespace Go.Proofs.YtholbmidciapdaaGreatDoor.X
open Go Go.Shelf Go.RowKit
set_option maxHeartbeats 2000000 in
set_option maxRecDepth 100000 in
theorem copyCheck_used (b : Nat) (w : World) (h0 : w.cell? ⟨b, 0, none⟩ = some (.pointer (some ⟨b, 0, none⟩))) :
    Calls Tryz.prog 68 #[.pointer (some ⟨b, 0, none⟩)] w fun e w' => e = .returned (.tuple #[]) ∧ w' = w := by
  obtain ⟨j, hj, hjs⟩ : ∃ j, Tryz.prog.info? 76 = some j ∧ j.size = 2 := Option.map_eq_some_iff.1 (by kernel_rfl : (Tryz.prog.info? 76).map (·.size) = some 2)
  go_enter Tryz.func68, Tryz.ntmps68
  go_wp2
  rw [Lib.run_neq_ptr_same w _ Tryz.underlying73 hj]
  go_wp2
  go_end0
  exact ⟨rfl, rfl⟩
set_option maxHeartbeats 2000000 in
set_option maxRecDepth 100000 in
theorem copyCheck_fresh (b : Nat) (w : World) (h0 : w.cell? ⟨b, 0, none⟩ = some (.pointer none)) (hsh : w.shape? b = some (76, 2)) (hfz : w.frozen? ⟨b, 0, none⟩ = false) :
    Calls Tryz.prog 68 #[.pointer (some ⟨b, 0, none⟩)] w fun e w' => e = .returned (.tuple #[]) ∧ w' = w.setCell ⟨b, 0, none⟩ (.pointer (some ⟨b, 0, none⟩)) := by
  obtain ⟨j, hj, hjs⟩ : ∃ j, Tryz.prog.info? 76 = some j ∧ j.size = 2 := Option.map_eq_some_iff.1 (by kernel_rfl : (Tryz.prog.info? 76).map (·.size) = some 2)
  go_enter Tryz.func68, Tryz.ntmps68
  go_wp2
  rw [Lib.run_to_unsafe w ⟨b, 0, none⟩ Tryz.underlying73 Tryz.underlying106 hj (by rw [hjs]; decide) hsh (Nat.zero_lt_succ 1)]
  simp only [Result.andThen]
  rw [Oper.upon_value]
  go_wp2
  rw [run_callFunc_extern Tryz.func77 (by kernel_rfl) (by kernel_rfl) (by kernel_rfl) (e := Extern.AbiNoEscape.same) (by kernel_rfl)]
  rw [Lib.run_noEscape]
  simp only [Result.andThen]
  rw [Oper.upon_value]
  go_wp2
  rw [Lib.run_from_unsafe w ⟨b, 0, none⟩ Tryz.underlying106 Tryz.underlying73 hj hsh (by kernel_rfl)]
  simp only [Result.andThen]
  rw [Oper.upon_value]
  go_wp2
  go_end0
  exact ⟨rfl, rfl⟩
theorem copyCheck (B b : Nat) (bs : List Value) (w : World) (h : Lib.IsBuilderF 76 5 B b bs w) :
    Calls Tryz.prog 68 #[.pointer (some ⟨b, 0, none⟩)] w fun e w' => e = .returned (.tuple #[]) ∧ (Lib.BuilderAtF 76 5 B b (.pointer (some ⟨b, 0, none⟩)) bs w' ∧ Below B w w' ∧ Lib.OthersKept 5 (some b) w w') := by
  rcases h with h | h
  · refine (copyCheck_fresh b w h.cell0 h.shape h.frozen0).mono ?_
    rintro e w' ⟨rfl, rfl⟩
    exact ⟨rfl, h.used _, (Below.refl B w).setCell (p := ⟨b, 0, none⟩) h.1 _, (Lib.OthersKept.refl _ _ w).setCell ⟨b, 0, none⟩ rfl _⟩
  · refine (copyCheck_used b w h.cell0).mono ?_
    rintro e w' ⟨rfl, rfl⟩
    exact ⟨rfl, h, Below.refl B _, Lib.OthersKept.refl _ _ _⟩
set_option maxHeartbeats 4000000 in
set_option maxRecDepth 100000 in
theorem writeString (B b : Nat) (bs : List Value) (s : ByteArray) (w : World) (h : Lib.IsBuilderF 76 5 B b bs w) (hlen : bs.length + s.size ≤ 140737488355328) (hBw : B ≤ w.heap.size) :
    Calls Tryz.prog 52 #[.pointer (some ⟨b, 0, none⟩), .string s] w fun e w' => e = .returned (.tuple #[.int .i64 s.size, .nilIface]) ∧ (Lib.IsBuilderF 76 5 B b (bs ++ Lib.strCells s) w' ∧ Below B w w' ∧ Lib.OthersKept 5 (some b) w w') := by
  obtain ⟨i0, hi, hz0, hz1, hz2⟩ := info_parts (by kernel_rfl : (Tryz.prog.info? 5).map (fun i => (i.zero, i.size, i.bytes)) = some (some (.int .u8 0), 1, 1))
  go_enter Tryz.func52, Tryz.ntmps52
  go_wp2_with (go_at_call 68; refine (copyCheck B b bs _ h).mono ?_)
  rintro e w1 ⟨rfl, h1, hb1, hk1⟩
  obtain ⟨hB, v, hbk, hown, hne⟩ := h1
  have c0 : w1.cell? ⟨b, 0, none⟩ = some (.pointer (some ⟨b, 0, none⟩)) := by rw [Lib.cell_of_heap hbk]; rfl
  have c1 : w1.cell? ⟨b, 1, none⟩ = some v := by rw [Lib.cell_of_heap hbk]; rfl
  go_wp2_with (at_builtin; refine Lib.wpList_append_own_stringF _ rfl _ _ 74 9 rfl B 5 i0 Tryz.underlying74 Tryz.underlying9 hi hz0 hz1 hz2 _ _ _ rfl hown s rfl ?c3 ?c4 ?c5 ?_)
  case c3 => unfold maxLen; omega
  case c4 => omega
  case c5 => have := hb1.size; omega
  intro v' w2 hown' hgrow _
  have hlt : b < w1.heap.size := by
    rcases Nat.lt_or_ge b w1.heap.size with h' | h'
    · exact h'
    · simp [Array.getElem?_eq_none h'] at hbk
  have hb2 : w2.heap[b]? = some (.cells #[.pointer (some ⟨b, 0, none⟩), v] 76 (0, 0)) := by
    rw [hgrow.block b hlt (fun e => hne e.symm)]
    exact hbk
  have d0 : w2.cell? ⟨b, 0, none⟩ = some (.pointer (some ⟨b, 0, none⟩)) := by rw [Lib.cell_of_heap hb2]; rfl
  have d1 : w2.cell? ⟨b, 1, none⟩ = some v := by rw [Lib.cell_of_heap hb2]; rfl
  have f1 : w2.frozen? ⟨b, 1, none⟩ = false := Lib.frozen_of_heap hb2 1
  obtain ⟨ao, n', cap, rfl⟩ : ∃ ao n' cap, v' = .slice ao n' cap := by
    rcases hown'.2 with ⟨hv, _⟩ | ⟨g, cap, cur, fz, hv, _⟩
    · exact ⟨_, _, _, hv⟩
    · exact ⟨_, _, _, hv⟩
  go_wp2
  go_ret2
  refine ⟨rfl, ?_, ?_, (hk1.grown hgrow (Lib.ownsRowF_kind hown)).setCell ⟨b, 1, none⟩ rfl _⟩
  · exact Or.inr (Lib.BuilderAtF.put (T := 76) (e := 5) hB hb2 (bs' := bs ++ Lib.strCells s) (by simpa [Lib.strCells_length] using hown') (by decide))
  · exact (hb1.grown hgrow (by have := hb1.size; omega) (fun k hk => (hown.lt k hk).1)).setCell (p := ⟨b, 1, none⟩) hB _
theorem bld_heap {T e : TypeId} {B b : Nat} {bs : List Value} {W W2 : World} (h : Lib.IsBuilderF T e B b bs W) (hk : ∀ i, i < W.heap.size → W2.heap[i]? = W.heap[i]?) : Lib.IsBuilderF T e B b bs W2 := by
  have lt : ∀ {i : Nat} {o : Obj}, W.heap[i]? = some o → i < W.heap.size := by
    intro i o h
    rcases Nat.lt_or_ge i W.heap.size with h' | h'
    · exact h'
    · simp [Array.getElem?_eq_none h'] at h
  have key : ∀ p, Lib.BuilderAtF T e B b p bs W → Lib.BuilderAtF T e B b p bs W2 := by
    rintro p ⟨hB, v, hb, hown, hne⟩
    refine ⟨hB, v, (hk b (lt hb)).trans hb, ⟨hown.1, ?_⟩, hne⟩
    rcases hown.2 with h | ⟨g, cap, cur, fz, hv, hBg, hg, rest⟩
    · exact .inl h
    · exact .inr ⟨g, cap, cur, fz, hv, hBg, (hk g (lt hg)).trans hg, rest⟩
  exact h.elim (fun x => .inl (key _ x)) (fun x => .inr (key _ x))
theorem bld_below {T e : TypeId} {B b : Nat} {bs : List Value} {W W2 : World} (h : Lib.IsBuilderF T e B b bs W) (hb : Below W.heap.size W W2) : Lib.IsBuilderF T e B b bs W2 := bld_heap h hb.block
theorem bld_size {T e : TypeId} {B b : Nat} {bs : List Value} {W : World} (h : Lib.IsBuilderF T e B b bs W) : B ≤ W.heap.size := by
  have : ∀ p, Lib.BuilderAtF T e B b p bs W → B ≤ W.heap.size := by
    rintro p ⟨hB, v, hb, _⟩
    rcases Nat.lt_or_ge b W.heap.size with h' | h'
    · omega
    · simp [Array.getElem?_eq_none h'] at hb
  exact h.elim (this _) (this _)
theorem below_mine {B : Nat} {w W W2 : World} (h : Below w.heap.size w W) (k : Below B W W2) (hB : w.heap.size ≤ B) : Below w.heap.size w W2 := h.trans (k.mono hB)
/-- A write, over bytes. -/
theorem writeBytes (B b : Nat) (acc : List UInt8) (s : ByteArray) (w : World) (h : Lib.IsBuilderF 76 5 B b (Lib.byteCells acc) w) (hlen : acc.length + s.size ≤ 140737488355328) :
    Calls Tryz.prog 52 #[.pointer (some ⟨b, 0, none⟩), .string s] w fun e w' => (∃ n : Int, e = .returned (.tuple #[.int .i64 n, .nilIface])) ∧ Lib.IsBuilderF 76 5 B b (Lib.byteCells (acc ++ s.data.toList)) w' ∧ Below B w w' ∧ Lib.OthersKept 5 (some b) w w' := by
  refine (writeString B b (Lib.byteCells acc) s w h (by rw [Lib.byteCells_length]; exact hlen) (bld_size h)).mono ?_
  rintro e w' ⟨rfl, h1, hb, hk⟩
  refine ⟨⟨_, rfl⟩, ?_, hb, hk⟩
  rw [Lib.strCells_eq] at h1
  simpa [Lib.byteCells] using h1
end Go.Proofs.YtholbmidciapdaaGreatDoor.X
namespace Go.Proofs.YtholbmidciapdaaGreatDoor.X
open Go.RowKit
/-- The decimal numeral of an int. -/
def strconv_Itoa.f (a0 : Int) : Option ByteArray := if -9223372036854775808 ≤ a0 then (if a0 ≤ 9223372036854775807 then some ⟨(Lib.itoa a0).toArray⟩ else none) else none
theorem below_grow (w : World) (q : Nat) (os : Array Obj) : Below w.heap.size w (Sort.grow (w.drewN q) os) :=
  ⟨rfl, rfl, rfl, by show w.heap.size ≤ (w.heap ++ os).size; rw [Array.size_append]; omega, fun i hi => by
    show ((w.drewN q).heap ++ os)[i]? = _
    rw [Array.getElem?_append_left (by show i < w.heap.size; omega)]
    rfl⟩
theorem strconv_Itoa.calls (a0 : Int) (r : ByteArray) (w : World) (hG : GI w) (h : strconv_Itoa.f a0 = some r) :
    Calls Tryz.prog 53 #[.int .i64 a0] w fun e w' => e = .returned (.string r) ∧ Below w.heap.size w w' := by
  unfold strconv_Itoa.f at h
  by_cases h0 : -9223372036854775808 ≤ a0
  · by_cases h1 : a0 ≤ 9223372036854775807
    · rw [if_pos h0, if_pos h1] at h
      obtain rfl := Option.some.inj h
      refine (Tryz.strconv_Itoa a0 h0 h1 w hG.1).mono ?_
      rintro e w' ⟨rfl, k, os, rfl⟩
      exact ⟨rfl, below_grow w k os⟩
    · rw [if_pos h0, if_neg h1] at h
      cases h
  · rw [if_neg h0] at h
    cases h
end Go.Proofs.YtholbmidciapdaaGreatDoor.X
namespace Go.Proofs.YtholbmidciapdaaGreatDoor.Pr
open Go.RowKit Go.Proofs.YtholbmidciapdaaGreatDoorW.PrintWords Go.Proofs.YtholbmidciapdaaGreatDoorW.PrintLast Go.Proofs.YtholbmidciapdaaGreatDoorW.PrintMore Go.Proofs.YtholbmidciapdaaGreatDoor.X
attribute [local go_sem] max2_int min2_int max_two min_two max_three min_three max_four min_four   -- for this text's walks alone
set_option linter.unusedVariables false
set_option linter.unusedSimpArgs false
def tariff_Duty.j0 : Nat → Int → Int → Int → Bool → Int → List (S26) → Option (Int × Int)
 | 0, _, _, _, _, _, _ => none
 | k + 1, x1, x2, x3, x18, x177000, x177001 => if x18 = true then (some (0, 2)) else ((tariff_At.f k x177000 x177001 x1 x2).bind fun bt179 => (if bt179.2.2.2 = 0 then ((tariff_rounded.f (IntKind.u64.wrap ((IntKind.u64.wrap (bt179.2.2.1)) * (IntKind.u64.wrap (x3)))) x177000).bind fun t184 => (some (t184, 0))) else (some (0, bt179.2.2.2))))
def tariff_Duty.f (k : Nat) (a0_0 : Int) (l0_1 : List (S26)) (a1 : Int) (a2 : Int) (a3 : Int) : Option (Int × Int) := (tariff_right.f k a0_0 l0_1).bind fun t177 => (if t177 = true then ((tariff_within.f a3 0 10737418240000).bind fun t178 => (tariff_Duty.j0 k a1 a2 a3 (!t178) a0_0 l0_1)) else (tariff_Duty.j0 k a1 a2 a3 false a0_0 l0_1))
set_option maxHeartbeats 8000000 in
set_option maxRecDepth 100000 in
theorem tariff_Duty.calls (k : Nat) (a0_0 : Int) (A0_1 : Option Addr) (c0_1 : Nat) (l0_1 : List (S26)) (a1 : Int) (a2 : Int) (a3 : Int) (r1 : Int) (r2 : Int) (w : World) (hr0_1 : Kd.C k26 w A0_1 l0_1.length l0_1) (hc0_1 : l0_1.length ≤ c0_1) (h : tariff_Duty.f k a0_0 l0_1 a1 a2 a3 = some (r1, r2)) :
  Calls Tryz.prog 26 #[.agg #[.int .i64 a0_0, .slice A0_1 l0_1.length c0_1], .int .i64 a1, .int .i64 a2, .int .i64 a3] w fun e w' => e = .returned (.tuple #[.int .i64 r1, .int .i64 r2]) ∧ Below w.heap.size w w' := by
 have hu24 := Tryz.underlying24; have hu26 := Tryz.underlying26; have HR0_1 := Aside0.mk hr0_1; have HC0_1 := Aside0.mk hc0_1; clear hr0_1 hc0_1; have HB := Aside0.mk (Below.refl w.heap.size w); have H : ((tariff_right.f k a0_0 l0_1).bind fun t177 => (if t177 = true then ((tariff_within.f a3 0 10737418240000).bind fun t178 => (tariff_Duty.j0 k a1 a2 a3 (!t178) a0_0 l0_1)) else (tariff_Duty.j0 k a1 a2 a3 false a0_0 l0_1))) = some (r1, r2) := h; clear h; have HC5 := Aside0.mk H; clear H; go_enter Tryz.func26, Tryz.ntmps26
 go_upto_region 1 with (first | ((with_reducible refine gate_dst (N := 4) rfl ?_); refine box_event ?hg (N := 4) ?hd (cs := #[.int .i64 a0_0, .slice A0_1 l0_1.length c0_1]) (t := 24) ?hr ?_; (case hd => rfl); (case hg => rfl); (case hr => first | (go_simp; done) | (go_simp; rfl)); intro gb176 hg w6 hbox hb; have n0_ := Aside0.mk (below_step (eG HB.out) hb); have n1_ := Aside0.mk (hbox); have n2_ := Aside0.mk ((by rw [hg]; exact (below_size (eG HB.out)) : w.heap.size ≤ gb176)); have n3_ := Aside0.mk ((by rw [hg]; exact (below_size (eG HB.out)) : w.heap.size ≤ gb176)); clear HB; have HB := n0_; have BK176 := n1_; have GW176 := n2_; have GE176 := n3_; have ig176_ := geI GE176; clear n0_ n1_ n2_ n3_; clear hb hbox hg))
 (try simp only [Act.put, sIA, sC0, sCS])
 go_cut [18] (fun v18 wc => ∃ (kq : Nat) (x18_4 : Bool), v18 = .bool x18_4 ∧ Aside0 (tariff_Duty.j0 kq a1 a2 a3 x18_4 a0_0 l0_1 = some (r1, r2)) ∧ Aside0 (kq ≤ k) ∧ Aside0 (wc.heap[gb176]? = some (.cells #[.int .i64 a0_0, (.slice A0_1 l0_1.length c0_1)] 24 (0, 0))) ∧ Aside0 (Below w.heap.size w wc))
 case first =>
  have H := HC5.out; clear HC5; replace H := Option.bind_eq_some_iff.mp H; obtain ⟨t177, A70, H⟩ := H; replace H : (if t177 = true then ((tariff_within.f a3 0 10737418240000).bind fun t178 => (tariff_Duty.j0 k a1 a2 a3 (!t178) a0_0 l0_1)) else (tariff_Duty.j0 k a1 a2 a3 false a0_0 l0_1)) = some (r1, r2) := H; have A7 := Aside0.mk A70; clear A70; by_cases c8 : t177 = true
  ·
   subst c8; replace H : ((tariff_within.f a3 0 10737418240000).bind fun t178 => (tariff_Duty.j0 k a1 a2 a3 (!t178) a0_0 l0_1)) = some (r1, r2) := by rw [if_pos rfl] at H; exact H
   replace H := Option.bind_eq_some_iff.mp H; obtain ⟨t178, A90, H⟩ := H; replace H : (tariff_Duty.j0 k a1 a2 a3 (!t178) a0_0 l0_1) = some (r1, r2) := H; have A9 := Aside0.mk A90; clear A90; have H' := Aside0.mk H; clear H; have hcz10_0 : w6.cell? ⟨gb176, 0, none⟩ = some (.int .i64 a0_0) := (blk_cell BK176.out 0).trans rfl; have hcz10_1 : w6.cell? ⟨gb176, 1, none⟩ = some (.slice A0_1 l0_1.length c0_1) := (blk_cell BK176.out 1).trans rfl; have hfz10_0 := blk_frozen BK176.out 0; have hfz10_1 := blk_frozen BK176.out 1; go_wp2_with (first | ((with_reducible refine gate_callee (f := 41) rfl ?_); refine goesL_ (some 13) rfl rfl Tryz.func41 (by kernel_rfl) rfl #[.agg #[.int .i64 a0_0, .slice A0_1 l0_1.length c0_1]] rfl (by (try simp only [List.map_toArray, List.map_cons, List.map_nil]); first | done | rfl | (simp only [List.length_drop, List.length_take]; rfl)) ?_; (with_reducible refine (tariff_right.calls k a0_0 _ _ l0_1 true _ ?side1 ?side2 A7.out).mono ?_); (case side1 => repeat (first | exact (Kd.C_below HR0_1.out HB.out) | (with_reducible refine Kd.C_alloc ?_ _) | (with_reducible refine Kd.C_drewN ?_ _) | (with_reducible refine Kd.C_drew ?_))); (case side2 => exact HC0_1.out); rintro e w11 ⟨rfl, hb⟩; refine ⟨_, rfl, ?_⟩; have n0_ := Aside0.mk (blk_below (bG BK176.out) hb); have n1_ := Aside0.mk (below_step (eG HB.out) hb); clear BK176; clear HB; have BK176 := n0_; have HB := n1_; clear n0_ n1_; (try clear hb); (try clear hb2); (try clear hk); (try clear hi)) | (go_at_call 35; (with_reducible refine (tariff_within.calls a3 0 10737418240000 t178 _ A9.out).mono ?_); rintro e w' ⟨rfl, ⟨nd, rfl⟩⟩))
   go_meet
   case rel => exact ⟨_, (!t178), (by first | rfl | (simp; done) | (simp [*]; done)), H', ⟨by first | omega | exact Nat.le_refl _⟩, ⟨by (with_reducible repeat first | apply bN | apply bD | apply bA); exact BK176.out⟩, ⟨eG HB.out⟩⟩
  ·
   replace c8 := Bool.eq_false_iff.mpr c8; subst c8; replace H : (tariff_Duty.j0 k a1 a2 a3 false a0_0 l0_1) = some (r1, r2) := by rw [if_neg (show ¬ (false = true) by decide)] at H; exact H
   have H' := Aside0.mk H; clear H; have hcz12_0 : w6.cell? ⟨gb176, 0, none⟩ = some (.int .i64 a0_0) := (blk_cell BK176.out 0).trans rfl; have hcz12_1 : w6.cell? ⟨gb176, 1, none⟩ = some (.slice A0_1 l0_1.length c0_1) := (blk_cell BK176.out 1).trans rfl; have hfz12_0 := blk_frozen BK176.out 0; have hfz12_1 := blk_frozen BK176.out 1; go_wp2_with (first | ((with_reducible refine gate_callee (f := 41) rfl ?_); refine goesL_ (some 13) rfl rfl Tryz.func41 (by kernel_rfl) rfl #[.agg #[.int .i64 a0_0, .slice A0_1 l0_1.length c0_1]] rfl (by (try simp only [List.map_toArray, List.map_cons, List.map_nil]); first | done | rfl | (simp only [List.length_drop, List.length_take]; rfl)) ?_; (with_reducible refine (tariff_right.calls k a0_0 _ _ l0_1 false _ ?side1 ?side2 A7.out).mono ?_); (case side1 => repeat (first | exact (Kd.C_below HR0_1.out HB.out) | (with_reducible refine Kd.C_alloc ?_ _) | (with_reducible refine Kd.C_drewN ?_ _) | (with_reducible refine Kd.C_drew ?_))); (case side2 => exact HC0_1.out); rintro e w13 ⟨rfl, hb⟩; refine ⟨_, rfl, ?_⟩; have n0_ := Aside0.mk (blk_below (bG BK176.out) hb); have n1_ := Aside0.mk (below_step (eG HB.out) hb); clear BK176; clear HB; have BK176 := n0_; have HB := n1_; clear n0_ n1_; (try clear hb); (try clear hb2); (try clear hk); (try clear hi)))
   go_meet
   case rel => exact ⟨_, (false), (by first | rfl | (simp; done) | (simp [*]; done)), H', ⟨by first | omega | exact Nat.le_refl _⟩, ⟨by (with_reducible repeat first | apply bN | apply bD | apply bA); exact BK176.out⟩, ⟨eG HB.out⟩⟩
 case rest =>
  clear HC5; repeat first | clear c2 | clear p2 | clear c4 | clear c8 | clear hcz10_0 | clear hcz10_1 | clear hcz12_0 | clear hcz12_1 | clear hfz10_0 | clear hfz10_1 | clear hfz12_0 | clear hfz12_1
  obtain ⟨kq, x18_4, rfl, HA, HJ4, BK176, HB⟩ := hcut
  cases kq with
  | zero => exact absurd HA.out (by simp [tariff_Duty.j0])
  | succ kj4 =>
   have H := HA.out; clear HA; simp only [tariff_Duty.j0] at H; by_cases c14 : x18_4 = true
   ·
    subst c14; replace H : (some (0, 2)) = some (r1, r2) := by rw [if_pos rfl] at H; exact H
    simp only [Option.some.injEq, Prod.mk.injEq] at H; obtain ⟨rfl, rfl⟩ := H; go_wp2; go_ret2
    exact ⟨by first | rfl | (simp [errW_none, errW_some] <;> rfl) | (simp [*, errW_none, errW_some] <;> rfl), eG HB.out⟩
   ·
    replace c14 := Bool.eq_false_iff.mpr c14; subst c14; replace H : ((tariff_At.f kj4 a0_0 l0_1 a1 a2).bind fun bt179 => (if bt179.2.2.2 = 0 then ((tariff_rounded.f (IntKind.u64.wrap ((IntKind.u64.wrap (bt179.2.2.1)) * (IntKind.u64.wrap (a3)))) a0_0).bind fun t184 => (some (t184, 0))) else (some (0, bt179.2.2.2)))) = some (r1, r2) := by rw [if_neg (show ¬ (false = true) by decide)] at H; exact H
    replace H := Option.bind_eq_some_iff.mp H; obtain ⟨⟨t179, t180, t181, t182⟩, A150, H⟩ := H; replace H : (if t182 = 0 then ((tariff_rounded.f (IntKind.u64.wrap ((IntKind.u64.wrap (t181)) * (IntKind.u64.wrap (a3)))) a0_0).bind fun t184 => (some (t184, 0))) else (some (0, t182))) = some (r1, r2) := H; have A15 := Aside0.mk A150; clear A150; by_cases c16 : t182 = 0
    ·
     rw [if_pos c16] at H; have c16b0 : (t182 == 0) = true := beq_iff_eq.mpr c16; have c16b1 : (t182 != 0) = false := bne_eq_false_iff_eq.mpr c16; clear c16; replace H := Option.bind_eq_some_iff.mp H; obtain ⟨t184, A170, H⟩ := H; replace H : (some (t184, 0)) = some (r1, r2) := H; have A17 := Aside0.mk A170; clear A170; simp only [Option.some.injEq, Prod.mk.injEq] at H; obtain ⟨rfl, rfl⟩ := H; have hcz18_0 : wc.cell? ⟨gb176, 0, none⟩ = some (.int .i64 a0_0) := (blk_cell BK176.out 0).trans rfl; have hcz18_1 : wc.cell? ⟨gb176, 1, none⟩ = some (.slice A0_1 l0_1.length c0_1) := (blk_cell BK176.out 1).trans rfl; have hfz18_0 := blk_frozen BK176.out 0; have hfz18_1 := blk_frozen BK176.out 1; go_wp2_with (first | ((with_reducible refine gate_callee (f := 19) rfl ?_); refine goesL_ (some 23) rfl rfl Tryz.func19 (by kernel_rfl) rfl #[.agg #[.int .i64 a0_0, .slice A0_1 l0_1.length c0_1], .int .i64 a1, .int .i64 a2] rfl (by (try simp only [List.map_toArray, List.map_cons, List.map_nil]); first | done | rfl | (simp only [List.length_drop, List.length_take]; rfl)) ?_; (with_reducible refine (tariff_At.calls kj4 a0_0 _ _ l0_1 a1 a2 t179 t180 t181 t182 _ ?side1 ?side2 A15.out).mono ?_); (case side1 => repeat (first | exact (Kd.C_below HR0_1.out HB.out) | (with_reducible refine Kd.C_alloc ?_ _) | (with_reducible refine Kd.C_drewN ?_ _) | (with_reducible refine Kd.C_drew ?_))); (case side2 => exact HC0_1.out); rintro e w19 ⟨rfl, hb⟩; refine ⟨_, rfl, ?_⟩; have n0_ := Aside0.mk (blk_below (bG BK176.out) hb); have n1_ := Aside0.mk (below_step (eG HB.out) hb); clear BK176; clear HB; have BK176 := n0_; have HB := n1_; clear n0_ n1_; (try clear hb); (try clear hb2); (try clear hk); (try clear hi)) | ((with_reducible refine gate_dst (N := 10) rfl ?_); refine box_event ?hg (N := 10) ?hd (cs := #[.int .i64 0, .int .i64 0, .int .i64 0]) (t := 26) ?hr ?_; (case hd => rfl); (case hg => rfl); (case hr => first | (go_simp; done) | (go_simp; rfl)); intro gb183 hg w20 hbox hb; have n0_ := Aside0.mk (blk_below (bG BK176.out) hb); have n1_ := Aside0.mk (below_step (eG HB.out) hb); have n2_ := Aside0.mk (hbox); have n3_ := Aside0.mk ((by rw [hg]; exact (below_size (eG HB.out)) : w.heap.size ≤ gb183)); have n4_ := Aside0.mk ((by rw [hg]; exact (below_size (eG HB.out)) : w.heap.size ≤ gb183)); have n5_ := Aside0.mk ((by rw [hg]; exact Nat.ne_of_lt (blk_lt (bG BK176.out)) : gb176 ≠ gb183)); have n6_ := Aside0.mk ((by rw [hg]; exact Nat.ne_of_gt (blk_lt (bG BK176.out)) : gb183 ≠ gb176)); clear BK176; clear HB; have BK176 := n0_; have HB := n1_; have BK183 := n2_; have GW183 := n3_; have GE183 := n4_; have ig183_ := geI GE183; have NB176_183 := n5_; have NB183_176 := n6_; clear n0_ n1_ n2_ n3_ n4_ n5_ n6_; clear hb hbox hg; have hnb21 := NB183_176.out; have hnc21 := NB176_183.out; have hcz22_0 : w20.cell? ⟨gb183, 0, none⟩ = some (.int .i64 0) := (blk_cell BK183.out 0).trans rfl; have hcz22_1 : w20.cell? ⟨gb183, 1, none⟩ = some (.int .i64 0) := (blk_cell BK183.out 1).trans rfl; have hcz22_2 : w20.cell? ⟨gb183, 2, none⟩ = some (.int .i64 0) := (blk_cell BK183.out 2).trans rfl; have hfz22_0 := blk_frozen BK183.out 0; have hfz22_1 := blk_frozen BK183.out 1; have hfz22_2 := blk_frozen BK183.out 2; have hcz23_0 : w20.cell? ⟨gb176, 0, none⟩ = some (.int .i64 a0_0) := (blk_cell BK176.out 0).trans rfl; have hcz23_1 : w20.cell? ⟨gb176, 1, none⟩ = some (.slice A0_1 l0_1.length c0_1) := (blk_cell BK176.out 1).trans rfl; have hfz23_0 := blk_frozen BK176.out 0; have hfz23_1 := blk_frozen BK176.out 1) | ((with_reducible refine gate_callee (f := 50) rfl ?_); refine goesL_ (some 37) rfl rfl Tryz.func50 (by kernel_rfl) rfl #[.int .u64 (IntKind.u64.wrap ((IntKind.u64.wrap (t181)) * (IntKind.u64.wrap (a3)))), .int .i64 a0_0] rfl (by (try simp only [List.map_toArray, List.map_cons, List.map_nil]); first | done | rfl | (simp only [List.length_drop, List.length_take]; rfl)) ?_; (with_reducible refine (tariff_rounded.calls (IntKind.u64.wrap ((IntKind.u64.wrap (t181)) * (IntKind.u64.wrap (a3)))) a0_0 t184 _ A17.out).mono ?_); rintro e w' ⟨rfl, ⟨nd, rfl⟩⟩; refine ⟨_, rfl, ?_⟩))
     go_ret2
     exact ⟨by first | rfl | (simp [errW_none, errW_some] <;> rfl) | (simp [*, errW_none, errW_some] <;> rfl), eG HB.out⟩
    ·
     rw [if_neg c16] at H; have c16b0 : (t182 == 0) = false := beq_eq_false_iff_ne.mpr c16; have c16b1 : (t182 != 0) = true := bne_iff_ne.mpr c16; simp only [Option.some.injEq, Prod.mk.injEq] at H; obtain ⟨rfl, rfl⟩ := H; have hcz24_0 : wc.cell? ⟨gb176, 0, none⟩ = some (.int .i64 a0_0) := (blk_cell BK176.out 0).trans rfl; have hcz24_1 : wc.cell? ⟨gb176, 1, none⟩ = some (.slice A0_1 l0_1.length c0_1) := (blk_cell BK176.out 1).trans rfl; have hfz24_0 := blk_frozen BK176.out 0; have hfz24_1 := blk_frozen BK176.out 1; go_wp2_with (first | ((with_reducible refine gate_callee (f := 19) rfl ?_); refine goesL_ (some 23) rfl rfl Tryz.func19 (by kernel_rfl) rfl #[.agg #[.int .i64 a0_0, .slice A0_1 l0_1.length c0_1], .int .i64 a1, .int .i64 a2] rfl (by (try simp only [List.map_toArray, List.map_cons, List.map_nil]); first | done | rfl | (simp only [List.length_drop, List.length_take]; rfl)) ?_; (with_reducible refine (tariff_At.calls kj4 a0_0 _ _ l0_1 a1 a2 t179 t180 t181 t182 _ ?side1 ?side2 A15.out).mono ?_); (case side1 => repeat (first | exact (Kd.C_below HR0_1.out HB.out) | (with_reducible refine Kd.C_alloc ?_ _) | (with_reducible refine Kd.C_drewN ?_ _) | (with_reducible refine Kd.C_drew ?_))); (case side2 => exact HC0_1.out); rintro e w25 ⟨rfl, hb⟩; refine ⟨_, rfl, ?_⟩; have n0_ := Aside0.mk (blk_below (bG BK176.out) hb); have n1_ := Aside0.mk (below_step (eG HB.out) hb); clear BK176; clear HB; have BK176 := n0_; have HB := n1_; clear n0_ n1_; (try clear hb); (try clear hb2); (try clear hk); (try clear hi)) | ((with_reducible refine gate_dst (N := 10) rfl ?_); refine box_event ?hg (N := 10) ?hd (cs := #[.int .i64 0, .int .i64 0, .int .i64 0]) (t := 26) ?hr ?_; (case hd => rfl); (case hg => rfl); (case hr => first | (go_simp; done) | (go_simp; rfl)); intro gb183 hg w26 hbox hb; have n0_ := Aside0.mk (blk_below (bG BK176.out) hb); have n1_ := Aside0.mk (below_step (eG HB.out) hb); have n2_ := Aside0.mk (hbox); have n3_ := Aside0.mk ((by rw [hg]; exact (below_size (eG HB.out)) : w.heap.size ≤ gb183)); have n4_ := Aside0.mk ((by rw [hg]; exact (below_size (eG HB.out)) : w.heap.size ≤ gb183)); have n5_ := Aside0.mk ((by rw [hg]; exact Nat.ne_of_lt (blk_lt (bG BK176.out)) : gb176 ≠ gb183)); have n6_ := Aside0.mk ((by rw [hg]; exact Nat.ne_of_gt (blk_lt (bG BK176.out)) : gb183 ≠ gb176)); clear BK176; clear HB; have BK176 := n0_; have HB := n1_; have BK183 := n2_; have GW183 := n3_; have GE183 := n4_; have ig183_ := geI GE183; have NB176_183 := n5_; have NB183_176 := n6_; clear n0_ n1_ n2_ n3_ n4_ n5_ n6_; clear hb hbox hg; have hnb27 := NB183_176.out; have hnc27 := NB176_183.out; have hcz28_0 : w26.cell? ⟨gb183, 0, none⟩ = some (.int .i64 0) := (blk_cell BK183.out 0).trans rfl; have hcz28_1 : w26.cell? ⟨gb183, 1, none⟩ = some (.int .i64 0) := (blk_cell BK183.out 1).trans rfl; have hcz28_2 : w26.cell? ⟨gb183, 2, none⟩ = some (.int .i64 0) := (blk_cell BK183.out 2).trans rfl; have hfz28_0 := blk_frozen BK183.out 0; have hfz28_1 := blk_frozen BK183.out 1; have hfz28_2 := blk_frozen BK183.out 2))
     go_ret2
     exact ⟨by first | rfl | (simp [errW_none, errW_some] <;> rfl) | (simp [*, errW_none, errW_some] <;> rfl), eG HB.out⟩
def tariff_Print.app (acc : List UInt8) (s : ByteArray) : Option (List UInt8) := if acc.length + s.size ≤ 140737488355328 then some (acc ++ s.data.toList) else none
def tariff_Print.head (r : Int) : Option ByteArray := if 0 ≤ r then (wordsL[r.toNat]?).map fun z => (⟨#[114, 111, 117, 110, 100, 105, 110, 103, 32]⟩ ++ ⟨z.toArray⟩) ++ ⟨#[10]⟩ else none
def tariff_Print.part (x : S26) : Option ByteArray := (strconv_Itoa.f x.f0).bind fun a => (strconv_Itoa.f x.f1).bind fun b => (strconv_Itoa.f x.f2).bind fun c => if a.size ≤ 100 ∧ b.size ≤ 100 ∧ c.size ≤ 100 then some (((((((⟨#[99, 108, 97, 115, 115, 32]⟩ ++ a) ++ ⟨#[32, 102, 114, 111, 109, 32]⟩) ++ b) ++ ⟨#[32, 97, 116, 32]⟩) ++ c) ++ ⟨#[10]⟩)) else none
def tariff_Print.l0 : Nat → List S26 → List UInt8 → Int → Option (ByteArray × Int)
 | 0, _, _, _ => none
 | k + 1, l, acc, i => if i < (l.length : Int) then (if 0 ≤ i then ((tariff_Print.part (rd_T26 l i)).bind fun s => (tariff_Print.app acc s).bind fun acc2 => tariff_Print.l0 k l acc2 (wrap64 (i + 1))) else none) else some (⟨acc.toArray⟩, 0)
def tariff_Print.f (k : Nat) (a0_0 : Int) (l0 : List (S26)) : Option (ByteArray × Int) := (tariff_right.f k a0_0 l0).bind fun t => if t = true then (tariff_Print.head a0_0).bind fun hd => tariff_Print.l0 k l0 hd.data.toList 0 else some (⟨#[]⟩, 1)
set_option maxHeartbeats 8000000 in
set_option maxRecDepth 100000 in
theorem tariff_Print.calls (k : Nat) (a0_0 : Int) (A0_1 : Option Addr) (c0_1 : Nat) (l0_1 : List (S26)) (r1 : ByteArray) (r2 : Int) (w : World) (hr0_1 : Kd.C k26 w A0_1 l0_1.length l0_1) (hc0_1 : l0_1.length ≤ c0_1) (hG : GI w) (h : tariff_Print.f k a0_0 l0_1 = some (r1, r2)) :
    Calls Tryz.prog 28 #[.agg #[.int .i64 a0_0, .slice A0_1 l0_1.length c0_1]] w fun e w' => e = .returned (.tuple #[.string r1, .int .i64 r2]) ∧ Below w.heap.size w w' := by
  have hu24 := Tryz.underlying24; have hu26 := Tryz.underlying26; replace h := Option.bind_eq_some_iff.mp h; obtain ⟨t, ht, h⟩ := h; obtain ⟨W0, hW0⟩ : ∃ W0, W0 = w.alloc (.cells #[.int .i64 a0_0, .slice A0_1 l0_1.length c0_1] 24) := ⟨_, rfl⟩; have hB0 : Below w.heap.size w W0 := by rw [hW0]; exact below_alloc (Below.refl _ _) _
  have X0 : W0.heap[w.heap.size]? = some (.cells #[.int .i64 a0_0, .slice A0_1 l0_1.length c0_1] 24 (0, 0)) := by rw [hW0, heap_alloc_new]
  have hs0 : W0.heap.size = w.heap.size + 1 := by rw [hW0]; simp [World.size_alloc]
  cases t with
  | false =>
    simp only [Bool.false_eq_true, if_false, Option.some.injEq, Prod.mk.injEq] at h; obtain ⟨rfl, rfl⟩ := h; go_enter Tryz.func28, Tryz.ntmps28
    go_wp2_with (first
      | rw [← hW0]
      | (refine (tariff_right.calls k a0_0 A0_1 c0_1 l0_1 false W0 (Kd.C_below hr0_1 hB0) hc0_1 ht).mono ?_; rintro e w1 ⟨rfl, hb1⟩))
    go_ret2
    exact ⟨rfl, below_step hB0 hb1⟩
  | true =>
    simp only [if_true] at h; obtain ⟨hd, hh, h⟩ := Option.bind_eq_some_iff.1 h; unfold tariff_Print.head at hh; by_cases h0 : 0 ≤ a0_0
    case neg => rw [if_neg h0] at hh; cases hh
    rw [if_pos h0] at hh; obtain ⟨z, hz, rfl⟩ := Option.map_eq_some_iff.1 hh; have hW := (hG.words).cell a0_0.toNat z hz
    have hlt : a0_0 < 5 := by
      have := (List.getElem?_eq_some_iff.1 hz).1; have e : wordsL.length = 5 := rfl; omega
    have hzl : z.length ≤ 100 := by
      have hm := List.mem_of_getElem? hz; simp only [wordsL, List.mem_cons, List.not_mem_nil, or_false] at hm; rcases hm with rfl | rfl | rfl | rfl | rfl <;> decide
    have hzs : (⟨z.toArray⟩ : ByteArray).size ≤ 100 := by simpa [ByteArray.size] using hzl
    have ha1 : ∀ w, (Op.stringOp .add ⟨#[114, 111, 117, 110, 100, 105, 110, 103, 32]⟩ ⟨z.toArray⟩).run Tryz.prog w = .ok (.string (⟨#[114, 111, 117, 110, 100, 105, 110, 103, 32]⟩ ++ ⟨z.toArray⟩)) w := fun w => run_string_add_sum _ _ _ (by rw [show (⟨#[114, 111, 117, 110, 100, 105, 110, 103, 32]⟩ : ByteArray).size = 9 from rfl]; omega)
    have ha2 : ∀ w, (Op.stringOp .add (⟨#[114, 111, 117, 110, 100, 105, 110, 103, 32]⟩ ++ ⟨z.toArray⟩) ⟨#[10]⟩).run Tryz.prog w = .ok (.string ((⟨#[114, 111, 117, 110, 100, 105, 110, 103, 32]⟩ ++ ⟨z.toArray⟩) ++ ⟨#[10]⟩)) w := fun w => run_string_add_sum _ _ _ (by rw [ByteArray.size_append, show (⟨#[114, 111, 117, 110, 100, 105, 110, 103, 32]⟩ : ByteArray).size = 9 from rfl, show (⟨#[10]⟩ : ByteArray).size = 1 from rfl]; omega)
    go_enter Tryz.func28, Tryz.ntmps28
    go_wp2_with (first
      | rw [← hW0]
      | (refine (tariff_right.calls k a0_0 A0_1 c0_1 l0_1 true W0 (Kd.C_below hr0_1 hB0) hc0_1 ht).mono ?_; rintro e w1 ⟨rfl, hb1⟩
         have hs1 := hb1.size; have hB2 : Below W0.heap.size W0 (w1.alloc (.cells #[.pointer none, .slice none 0 0] 76)) := below_alloc hb1 _; have Y0 := (hB2.block _ (by omega)).trans X0; have y00 := (blk_cell Y0 0).trans (show _ = some (Value.int .i64 a0_0) from rfl); have y01 := (blk_cell Y0 1).trans (show _ = some (Value.slice A0_1 l0_1.length c0_1) from rfl); have hB3 := below_step hB0 hB2; have hW1 := (hB3.cell (World.block_lt_of_cell? _ _ hW)).trans hW))
    have HBu0 := Lib.IsBuilderF.of (Lib.fresh_isBuilder 76 5 w1); refine (writeBytes w1.heap.size w1.heap.size [] _ _ HBu0 (by rw [ByteArray.size_append, ByteArray.size_append, show (⟨#[114, 111, 117, 110, 100, 105, 110, 103, 32]⟩ : ByteArray).size = 9 from rfl, show (⟨#[10]⟩ : ByteArray).size = 1 from rfl]; simp only [List.length_nil]; omega)).mono ?_; rintro e w3 ⟨⟨n3, rfl⟩, hbu3, hb3, hk3⟩; have HW1 : Aside0 (w.heap.size ≤ w1.heap.size) := ⟨by omega⟩; have Y3 := (hb3.block w.heap.size (by omega)).trans Y0; have y30 := (blk_cell Y3 0).trans (show _ = some (Value.int .i64 a0_0) from rfl); have y31 := (blk_cell Y3 1).trans (show _ = some (Value.slice A0_1 l0_1.length c0_1) from rfl); have HBu := Aside0.mk hbu3; have HB := Aside0.mk (below_mine hB3 hb3 HW1.out); have HR0 := Aside0.mk hr0_1; have HG := Aside0.mk hG; have H' := Aside0.mk h; clear h hr0_1 hG; go_wp2; go_loopg [20] k (fun kq v20 w' => ∃ (x : Int) (acc : List UInt8), v20 = .int .i64 x ∧ Aside0 (tariff_Print.l0 kq l0_1 acc x = some (r1, r2)) ∧ Aside0 (kq ≤ k) ∧ Aside0 (Lib.IsBuilderF 76 5 w1.heap.size w1.heap.size (Lib.byteCells acc) w') ∧ Aside0 (Below w.heap.size w w'))
    case atStart => exact ⟨0, _, rfl, H', ⟨Nat.le_refl _⟩, HBu, HB⟩
    case round =>
      clear H' HBu HB; obtain ⟨x, acc, rfl, HA, HK1, HBu, HB⟩ := hrel
      cases gk with
      | zero => exact absurd HA.out (by simp [tariff_Print.l0])
      | succ k1 =>
        have H := HA.out; clear HA; simp only [tariff_Print.l0] at H; by_cases c2 : x < (l0_1.length : Int)
        · rw [if_pos c2] at H
          have c2b : decide (x < (l0_1.length : Int)) = true := decide_eq_true c2; by_cases c3 : 0 ≤ x
          · rw [if_pos c3] at H
            have c3b : decide (0 ≤ x) = true := decide_eq_true c3; obtain ⟨s, hs, H⟩ := Option.bind_eq_some_iff.mp H; obtain ⟨acc2, ha, H⟩ := Option.bind_eq_some_iff.mp H; obtain ⟨ta, hta, hs⟩ := Option.bind_eq_some_iff.mp hs; obtain ⟨tb, htb, hs⟩ := Option.bind_eq_some_iff.mp hs; obtain ⟨tc, htc, hs⟩ := Option.bind_eq_some_iff.mp hs; by_cases hsz : ta.size ≤ 100 ∧ tb.size ≤ 100 ∧ tc.size ≤ 100
            case neg => rw [if_neg hsz] at hs; cases hs
            rw [if_pos hsz] at hs; obtain rfl := Option.some.inj hs; unfold tariff_Print.app at ha; by_cases hln : acc.length + ((((((((⟨#[99, 108, 97, 115, 115, 32]⟩ ++ ta) ++ ⟨#[32, 102, 114, 111, 109, 32]⟩) ++ tb) ++ ⟨#[32, 97, 116, 32]⟩) ++ tc) ++ ⟨#[10]⟩)) : ByteArray).size ≤ 140737488355328
            case neg => rw [if_neg hln] at ha; cases ha
            rw [if_pos hln] at ha; obtain rfl := Option.some.inj ha; have HLEN := Aside0.mk hln; have HSZ := Aside0.mk hsz; have H' := Aside0.mk H; have HTA := Aside0.mk hta; have HTB := Aside0.mk htb; have HTC := Aside0.mk htc; clear H hta htb htc hs ha hln hsz; obtain ⟨ad1, e1, hy0, hy1, hy2⟩ := at_T26 HR0.out x c3 c2; cases e1; replace hy0 := (HB.out.cell (World.block_lt_of_cell? w _ hy0)).trans hy0; replace hy1 := (HB.out.cell (World.block_lt_of_cell? w _ hy1)).trans hy1; replace hy2 := (HB.out.cell (World.block_lt_of_cell? w _ hy2)).trans hy2; replace c3 := eq_true c3; replace c2 := eq_true c2; go_wp2_with (first | ((with_reducible refine gate_dst (N := 6) rfl ?_); refine box_event ?hg (N := 6) ?hd (cs := #[.int .i64 0, .int .i64 0, .int .i64 0]) (t := 26) ?hr ?_; (case hd => rfl); (case hg => rfl); (case hr => first | (go_simp; done) | (go_simp; rfl)); intro gs hgs w14 hbox hb; have BK := Aside0.mk hbox; have GS := Aside0.mk hgs; have Hb14 := Aside0.mk hb; have HBu14 := Aside0.mk (bld_below HBu.out hb); clear hbox hb hgs; have hcz0 : w14.cell? ⟨gs, 0, none⟩ = some (.int .i64 0) := (blk_cell BK.out 0).trans rfl; have hcz1 : w14.cell? ⟨gs, 1, none⟩ = some (.int .i64 0) := (blk_cell BK.out 1).trans rfl; have hcz2 : w14.cell? ⟨gs, 2, none⟩ = some (.int .i64 0) := (blk_cell BK.out 2).trans rfl; have hfz2 := blk_frozen BK.out 2; have hfz0 := blk_frozen BK.out 0; have hfz1 := blk_frozen BK.out 1))
            have HbW : Aside0 (Below wr.heap.size wr (((w14.setCell ⟨gs, 0, none⟩ (.int .i64 (rd_T26 l0_1 x).f0)).setCell ⟨gs, 1, none⟩ (.int .i64 (rd_T26 l0_1 x).f1)).setCell ⟨gs, 2, none⟩ (.int .i64 (rd_T26 l0_1 x).f2))) :=
              ⟨((Hb14.out.setCell (p := ⟨gs, 0, none⟩) (Nat.le_of_eq GS.out.symm) _).setCell (p := ⟨gs, 1, none⟩) (Nat.le_of_eq GS.out.symm) _).setCell (p := ⟨gs, 2, none⟩) (Nat.le_of_eq GS.out.symm) _⟩
            have HX : Aside0 ((((w14.setCell ⟨gs, 0, none⟩ (.int .i64 (rd_T26 l0_1 x).f0)).setCell ⟨gs, 1, none⟩ (.int .i64 (rd_T26 l0_1 x).f1)).setCell ⟨gs, 2, none⟩ (.int .i64 (rd_T26 l0_1 x).f2)).heap[gs]? = some (.cells #[.int .i64 (rd_T26 l0_1 x).f0, .int .i64 (rd_T26 l0_1 x).f1, .int .i64 (rd_T26 l0_1 x).f2] 26 (0, 0))) :=
              ⟨blk_put (cs := #[.int .i64 (rd_T26 l0_1 x).f0, .int .i64 (rd_T26 l0_1 x).f1, .int .i64 0]) (blk_put (cs := #[.int .i64 (rd_T26 l0_1 x).f0, .int .i64 0, .int .i64 0]) (blk_put (cs := #[.int .i64 0, .int .i64 0, .int .i64 0]) BK.out 0 _ rfl) 1 _ rfl) 2 _ rfl⟩
            generalize (((w14.setCell ⟨gs, 0, none⟩ (.int .i64 (rd_T26 l0_1 x).f0)).setCell ⟨gs, 1, none⟩ (.int .i64 (rd_T26 l0_1 x).f1)).setCell ⟨gs, 2, none⟩ (.int .i64 (rd_T26 l0_1 x).f2)) = W at HbW HX ⊢; have HBuW := Aside0.mk (bld_below HBu.out HbW.out); have HBW := Aside0.mk (below_step HB.out HbW.out); clear hcz0 hcz1 hcz2 hfz0 hfz1 hfz2 hy0 hy1 hy2 BK Hb14 HB HBu HbW HBu14; have hz0 : (⟨#[99, 108, 97, 115, 115, 32]⟩ : ByteArray).size = 6 := rfl; have hz1 : (⟨#[32, 102, 114, 111, 109, 32]⟩ : ByteArray).size = 6 := rfl; have hz2 : (⟨#[32, 97, 116, 32]⟩ : ByteArray).size = 4 := rfl; have hz3 : (⟨#[10]⟩ : ByteArray).size = 1 := rfl; have ha0 : ∀ w, (Op.stringOp .add ⟨#[99, 108, 97, 115, 115, 32]⟩ ta).run Tryz.prog w = .ok (.string (⟨#[99, 108, 97, 115, 115, 32]⟩ ++ ta)) w := fun w => run_string_add_sum _ _ _ (by have := HSZ.out; simp only [ByteArray.size_append, hz0, hz1, hz2, hz3]; omega)
            have ha1 : ∀ w, (Op.stringOp .add (⟨#[99, 108, 97, 115, 115, 32]⟩ ++ ta) ⟨#[32, 102, 114, 111, 109, 32]⟩).run Tryz.prog w = .ok (.string ((⟨#[99, 108, 97, 115, 115, 32]⟩ ++ ta) ++ ⟨#[32, 102, 114, 111, 109, 32]⟩)) w := fun w => run_string_add_sum _ _ _ (by have := HSZ.out; simp only [ByteArray.size_append, hz0, hz1, hz2, hz3]; omega)
            have ha2 : ∀ w, (Op.stringOp .add ((⟨#[99, 108, 97, 115, 115, 32]⟩ ++ ta) ++ ⟨#[32, 102, 114, 111, 109, 32]⟩) tb).run Tryz.prog w = .ok (.string (((⟨#[99, 108, 97, 115, 115, 32]⟩ ++ ta) ++ ⟨#[32, 102, 114, 111, 109, 32]⟩) ++ tb)) w := fun w => run_string_add_sum _ _ _ (by have := HSZ.out; simp only [ByteArray.size_append, hz0, hz1, hz2, hz3]; omega)
            have ha3 : ∀ w, (Op.stringOp .add (((⟨#[99, 108, 97, 115, 115, 32]⟩ ++ ta) ++ ⟨#[32, 102, 114, 111, 109, 32]⟩) ++ tb) ⟨#[32, 97, 116, 32]⟩).run Tryz.prog w = .ok (.string ((((⟨#[99, 108, 97, 115, 115, 32]⟩ ++ ta) ++ ⟨#[32, 102, 114, 111, 109, 32]⟩) ++ tb) ++ ⟨#[32, 97, 116, 32]⟩)) w := fun w => run_string_add_sum _ _ _ (by have := HSZ.out; simp only [ByteArray.size_append, hz0, hz1, hz2, hz3]; omega)
            have ha4 : ∀ w, (Op.stringOp .add ((((⟨#[99, 108, 97, 115, 115, 32]⟩ ++ ta) ++ ⟨#[32, 102, 114, 111, 109, 32]⟩) ++ tb) ++ ⟨#[32, 97, 116, 32]⟩) tc).run Tryz.prog w = .ok (.string (((((⟨#[99, 108, 97, 115, 115, 32]⟩ ++ ta) ++ ⟨#[32, 102, 114, 111, 109, 32]⟩) ++ tb) ++ ⟨#[32, 97, 116, 32]⟩) ++ tc)) w := fun w => run_string_add_sum _ _ _ (by have := HSZ.out; simp only [ByteArray.size_append, hz0, hz1, hz2, hz3]; omega)
            have ha5 : ∀ w, (Op.stringOp .add (((((⟨#[99, 108, 97, 115, 115, 32]⟩ ++ ta) ++ ⟨#[32, 102, 114, 111, 109, 32]⟩) ++ tb) ++ ⟨#[32, 97, 116, 32]⟩) ++ tc) ⟨#[10]⟩).run Tryz.prog w = .ok (.string ((((((⟨#[99, 108, 97, 115, 115, 32]⟩ ++ ta) ++ ⟨#[32, 102, 114, 111, 109, 32]⟩) ++ tb) ++ ⟨#[32, 97, 116, 32]⟩) ++ tc) ++ ⟨#[10]⟩)) w := fun w => run_string_add_sum _ _ _ (by have := HSZ.out; simp only [ByteArray.size_append, hz0, hz1, hz2, hz3]; omega)
            refine start_ (n := 16) (S := fun w' => w'.cell? ⟨gs, 0, none⟩ = some (.int .i64 (rd_T26 l0_1 x).f0) ∧ w'.cell? ⟨gs, 1, none⟩ = some (.int .i64 (rd_T26 l0_1 x).f1) ∧ w'.cell? ⟨gs, 2, none⟩ = some (.int .i64 (rd_T26 l0_1 x).f2) ∧ Lib.IsBuilderF 76 5 w1.heap.size w1.heap.size (Lib.byteCells acc) w' ∧ Below w.heap.size w w' ∧ GI w') (ds := [15]) #[false, false, false, false, false, false, false, false, false, false, false, false, false, false, false, false] (by kernel_rfl) rfl rfl ⟨(blk_cell HX.out 0).trans rfl, (blk_cell HX.out 1).trans rfl, (blk_cell HX.out 2).trans rfl, HBuW.out, (below_drew1 HBW.out), (GI.below HG.out (below_drew1 HBW.out))⟩ (fun hHeld => ?_); generalize W.drew = Wd at hHeld ⊢; refine pure_ (i := 0) (N := some 24) (v := ?_) (a' := ?_) #[true, false, false, false, false, false, false, false, false, false, false, false, false, false, false, false] rfl rfl (by kernel_rfl) (fun _ _ _ h => h) (Or.inl ⟨by rfl, ?_⟩) ?_ ?_; rotate_left
            · intro w'
              go_simp; with_reducible rfl
            rotate_left
            · simp only [Act.put, sIA, sC0, sCS, i64_w, i32_w]
              rfl
            refine pure_ (i := 5) (N := some 29) (v := ?_) (a' := ?_) #[true, false, false, false, false, true, false, false, false, false, false, false, false, false, false, false] rfl rfl (by kernel_rfl) (fun _ _ _ h => h) (Or.inl ⟨by rfl, ?_⟩) ?_ ?_; rotate_left
            · intro w'
              go_simp; with_reducible rfl
            rotate_left
            · simp only [Act.put, sIA, sC0, sCS, i64_w, i32_w]
              rfl
            refine pure_ (i := 10) (N := some 34) (v := ?_) (a' := ?_) #[true, false, false, false, false, true, false, false, false, false, true, false, false, false, false, false] rfl rfl (by kernel_rfl) (fun _ _ _ h => h) (Or.inl ⟨by rfl, ?_⟩) ?_ ?_; rotate_left
            · intro w'
              go_simp; with_reducible rfl
            rotate_left
            · simp only [Act.put, sIA, sC0, sCS, i64_w, i32_w]
              rfl
            refine take_ (i := 1) (N := some 25) (v := ?_) (a' := ?_) #[true, true, false, false, false, true, false, false, false, false, true, false, false, false, false, false] rfl rfl (by kernel_rfl) (fun _ _ _ h => h) (Or.inl ⟨by rfl, ?_⟩) hHeld ?_ ?_; rotate_left
            · rintro w' ⟨s0, s1, s2, s3, s4, s5⟩
              go_simp; with_reducible rfl
            rotate_left
            · simp only [Act.put, sIA, sC0, sCS, i64_w, i32_w]
              rfl
            refine take_ (i := 6) (N := some 30) (v := ?_) (a' := ?_) #[true, true, false, false, false, true, true, false, false, false, true, false, false, false, false, false] rfl rfl (by kernel_rfl) (fun _ _ _ h => h) (Or.inl ⟨by rfl, ?_⟩) hHeld ?_ ?_; rotate_left
            · rintro w' ⟨s0, s1, s2, s3, s4, s5⟩
              go_simp; with_reducible rfl
            rotate_left
            · simp only [Act.put, sIA, sC0, sCS, i64_w, i32_w]
              rfl
            refine take_ (i := 11) (N := some 35) (v := ?_) (a' := ?_) #[true, true, false, false, false, true, true, false, false, false, true, true, false, false, false, false] rfl rfl (by kernel_rfl) (fun _ _ _ h => h) (Or.inl ⟨by rfl, ?_⟩) hHeld ?_ ?_; rotate_left
            · rintro w' ⟨s0, s1, s2, s3, s4, s5⟩
              go_simp; with_reducible rfl
            rotate_left
            · simp only [Act.put, sIA, sC0, sCS, i64_w, i32_w]
              rfl
            refine one_ (i := 2) (N := some 26) #[true, true, true, false, false, true, true, false, false, false, true, true, false, false, false, false] rfl rfl (by kernel_rfl) (by decide) (fun K hK => ?_); refine goes_ Tryz.func53 (by kernel_rfl) rfl #[.int .i64 ((rd_T26 l0_1 x).f0)] (by rfl) rfl rfl (by simp only [List.map_toArray, List.map_cons, List.map_nil]; rfl) ?_; with_reducible refine (strconv_Itoa.calls _ _ _ hHeld.2.2.2.2.2 HTA.out).mono ?_
            rintro e w3 ⟨rfl, hb3⟩; refine ⟨_, rfl, ?_⟩; refine hK.out _ _ ⟨((hb3.cell (World.block_lt_of_cell? _ _ (hHeld.1))).trans (hHeld.1)), ((hb3.cell (World.block_lt_of_cell? _ _ (hHeld.2.1))).trans (hHeld.2.1)), ((hb3.cell (World.block_lt_of_cell? _ _ (hHeld.2.2.1))).trans (hHeld.2.2.1)), bld_below (hHeld.2.2.2.1) hb3, below_step (hHeld.2.2.2.2.1) hb3, GI.below (hHeld.2.2.2.2.2) hb3⟩ (fun hHeld => ?_); clear hK K; refine norm_ (a' := ?_) ?_ ?_; rotate_left
            · show Act.put _ (some 26) _ = _
              simp only [Act.put, sIA, sC0, sCS, i64_w, i32_w]; rfl
            refine pure_ (i := 3) (N := some 27) (v := ?_) (a' := ?_) #[true, true, true, true, false, true, true, false, false, false, true, true, false, false, false, false] rfl rfl (by kernel_rfl) (fun _ _ _ h => h) (Or.inl ⟨by rfl, ?_⟩) ?_ ?_; rotate_left
            · intro w'
              go_simp; with_reducible rfl
            rotate_left
            · simp only [Act.put, sIA, sC0, sCS, i64_w, i32_w]
              rfl
            refine pure_ (i := 4) (N := some 28) (v := ?_) (a' := ?_) #[true, true, true, true, true, true, true, false, false, false, true, true, false, false, false, false] rfl rfl (by kernel_rfl) (fun _ _ _ h => h) (Or.inl ⟨by rfl, ?_⟩) ?_ ?_; rotate_left
            · intro w'
              go_simp; with_reducible rfl
            rotate_left
            · simp only [Act.put, sIA, sC0, sCS, i64_w, i32_w]
              rfl
            refine one_ (i := 7) (N := some 31) #[true, true, true, true, true, true, true, true, false, false, true, true, false, false, false, false] rfl rfl (by kernel_rfl) (by decide) (fun K hK => ?_); refine goes_ Tryz.func53 (by kernel_rfl) rfl #[.int .i64 ((rd_T26 l0_1 x).f1)] (by rfl) rfl rfl (by simp only [List.map_toArray, List.map_cons, List.map_nil]; rfl) ?_; with_reducible refine (strconv_Itoa.calls _ _ _ hHeld.2.2.2.2.2 HTB.out).mono ?_
            rintro e w3 ⟨rfl, hb3⟩; refine ⟨_, rfl, ?_⟩; refine hK.out _ _ ⟨((hb3.cell (World.block_lt_of_cell? _ _ (hHeld.1))).trans (hHeld.1)), ((hb3.cell (World.block_lt_of_cell? _ _ (hHeld.2.1))).trans (hHeld.2.1)), ((hb3.cell (World.block_lt_of_cell? _ _ (hHeld.2.2.1))).trans (hHeld.2.2.1)), bld_below (hHeld.2.2.2.1) hb3, below_step (hHeld.2.2.2.2.1) hb3, GI.below (hHeld.2.2.2.2.2) hb3⟩ (fun hHeld => ?_); clear hK K; refine norm_ (a' := ?_) ?_ ?_; rotate_left
            · show Act.put _ (some 31) _ = _
              simp only [Act.put, sIA, sC0, sCS, i64_w, i32_w]; rfl
            refine pure_ (i := 8) (N := some 32) (v := ?_) (a' := ?_) #[true, true, true, true, true, true, true, true, true, false, true, true, false, false, false, false] rfl rfl (by kernel_rfl) (fun _ _ _ h => h) (Or.inl ⟨by rfl, ?_⟩) ?_ ?_; rotate_left
            · intro w'
              go_simp; with_reducible rfl
            rotate_left
            · simp only [Act.put, sIA, sC0, sCS, i64_w, i32_w]
              rfl
            refine pure_ (i := 9) (N := some 33) (v := ?_) (a' := ?_) #[true, true, true, true, true, true, true, true, true, true, true, true, false, false, false, false] rfl rfl (by kernel_rfl) (fun _ _ _ h => h) (Or.inl ⟨by rfl, ?_⟩) ?_ ?_; rotate_left
            · intro w'
              go_simp; with_reducible rfl
            rotate_left
            · simp only [Act.put, sIA, sC0, sCS, i64_w, i32_w]
              rfl
            refine one_ (i := 12) (N := some 36) #[true, true, true, true, true, true, true, true, true, true, true, true, true, false, false, false] rfl rfl (by kernel_rfl) (by decide) (fun K hK => ?_); refine goes_ Tryz.func53 (by kernel_rfl) rfl #[.int .i64 ((rd_T26 l0_1 x).f2)] (by rfl) rfl rfl (by simp only [List.map_toArray, List.map_cons, List.map_nil]; rfl) ?_; with_reducible refine (strconv_Itoa.calls _ _ _ hHeld.2.2.2.2.2 HTC.out).mono ?_
            rintro e w3 ⟨rfl, hb3⟩; refine ⟨_, rfl, ?_⟩; refine hK.out _ _ ⟨((hb3.cell (World.block_lt_of_cell? _ _ (hHeld.1))).trans (hHeld.1)), ((hb3.cell (World.block_lt_of_cell? _ _ (hHeld.2.1))).trans (hHeld.2.1)), ((hb3.cell (World.block_lt_of_cell? _ _ (hHeld.2.2.1))).trans (hHeld.2.2.1)), bld_below (hHeld.2.2.2.1) hb3, below_step (hHeld.2.2.2.2.1) hb3, GI.below (hHeld.2.2.2.2.2) hb3⟩ (fun hHeld => ?_); clear hK K; refine norm_ (a' := ?_) ?_ ?_; rotate_left
            · show Act.put _ (some 36) _ = _
              simp only [Act.put, sIA, sC0, sCS, i64_w, i32_w]; rfl
            refine pure_ (i := 13) (N := some 37) (v := ?_) (a' := ?_) #[true, true, true, true, true, true, true, true, true, true, true, true, true, true, false, false] rfl rfl (by kernel_rfl) (fun _ _ _ h => h) (Or.inl ⟨by rfl, ?_⟩) ?_ ?_; rotate_left
            · intro w'
              go_simp; with_reducible rfl
            rotate_left
            · simp only [Act.put, sIA, sC0, sCS, i64_w, i32_w]
              rfl
            refine pure_ (i := 14) (N := some 38) (v := ?_) (a' := ?_) #[true, true, true, true, true, true, true, true, true, true, true, true, true, true, true, false] rfl rfl (by kernel_rfl) (fun _ _ _ h => h) (Or.inl ⟨by rfl, ?_⟩) ?_ ?_; rotate_left
            · intro w'
              go_simp; with_reducible rfl
            rotate_left
            · simp only [Act.put, sIA, sC0, sCS, i64_w, i32_w]
              rfl
            refine last_ (i := 15) (N := some 39) #[true, true, true, true, true, true, true, true, true, true, true, true, true, true, true, true] rfl rfl (by kernel_rfl) (by decide) (fun K hK => ?_); refine goes_ Tryz.func52 (by kernel_rfl) rfl #[.pointer (some ⟨w1.heap.size, 0, none⟩), .string (((((((⟨#[99, 108, 97, 115, 115, 32]⟩ ++ ta) ++ ⟨#[32, 102, 114, 111, 109, 32]⟩) ++ tb) ++ ⟨#[32, 97, 116, 32]⟩) ++ tc) ++ ⟨#[10]⟩))] (by rfl) rfl rfl (by simp only [List.map_toArray, List.map_cons, List.map_nil]; rfl) ?_; with_reducible refine (writeBytes _ _ _ _ _ (hHeld.2.2.2.1) HLEN.out).mono ?_
            rintro e w3 ⟨⟨n3, rfl⟩, hbu3, hb3, hk3⟩; have HBu2 := Aside0.mk hbu3; have HB2 := Aside0.mk (below_mine (hHeld.2.2.2.2.1) hb3 HW1.out); clear hbu3 hb3 hk3; refine ⟨_, rfl, ?_⟩; refine hK.out _ _ ?_; clear hK K; refine norm_ (a' := ?_) ?_ ?_; rotate_left
            · show Act.put _ (some 39) _ = _
              simp only [Act.put, sIA, sC0, sCS, i64_w, i32_w]; rfl
            refine done_ (by kernel_rfl) ?_; clear ha0 ha1 ha2 ha3 ha4 ha5; go_wp2; go_roundg k1
            case measure => have := HK1.out; omega
            case rel => exact ⟨wrap64 (x + 1), _, rfl, H', ⟨by have := HK1.out; omega⟩, HBu2, HB2⟩
          · rw [if_neg c3] at H
            cases H
        · rw [if_neg c2] at H
          have c2b : decide (x < (l0_1.length : Int)) = false := decide_eq_false c2; clear c2; obtain ⟨rfl, rfl⟩ := Prod.mk.inj (Option.some.inj H); go_wp2_with (go_at_call 54; refine (Tryz.Builder_String_any_k _ _ acc _ HBu.out (bld_size HBu.out)).mono ?_)
          intro e w9 he hq1 hb9 hq2; subst he; go_wp2; go_ret2
          exact ⟨rfl, below_mine HB.out hb9 HW1.out⟩
def stringslite_HasPrefix.f (a0 : ByteArray) (a1 : ByteArray) : Option (Bool) := if (a0.size : Int) ≥ (a1.size : Int) then (if 0 ≤ (a1.size : Int) then (if (a1.size : Int) ≤ (a0.size : Int) then (some ((a0.extract 0 ((a1.size : Int) : Int).toNat).toList == a1.toList)) else (none)) else (none)) else (some false)
set_option maxHeartbeats 8000000 in
set_option maxRecDepth 100000 in
theorem stringslite_HasPrefix.calls (a0 : ByteArray) (a1 : ByteArray) (r : Bool) (w : World) (h : stringslite_HasPrefix.f a0 a1 = some r) :
  Calls Tryz.prog 80 #[.string a0, .string a1] w fun e w' => e = .returned (.bool r) ∧ Drawn0 w w' := by
 have H : (if (a0.size : Int) ≥ (a1.size : Int) then (if 0 ≤ (a1.size : Int) then (if (a1.size : Int) ≤ (a0.size : Int) then (some ((a0.extract 0 ((a1.size : Int) : Int).toNat).toList == a1.toList)) else (none)) else (none)) else (some false)) = some r := h; clear h; by_cases c3 : (a0.size : Int) ≥ (a1.size : Int)
 ·
  rw [if_pos c3] at H; have c3b0 : decide ((a1.size : Int) ≤ (a0.size : Int)) = true := decide_eq_true c3; have c3b1 : decide (a1.size ≤ a0.size) = true := decide_eq_true (Int.ofNat_le.mp c3); clear c3; by_cases c4 : 0 ≤ (a1.size : Int)
  ·
   rw [if_pos c4] at H; have c4b0 := eq_true c4; have c4b1 : decide (0 ≤ (a1.size : Int)) = true := decide_eq_true c4; clear c4; by_cases c5 : (a1.size : Int) ≤ (a0.size : Int)
   ·
    rw [if_pos c5] at H; have c5b0 := eq_true c5; have c5b1 : decide ((a1.size : Int) ≤ (a0.size : Int)) = true := decide_eq_true c5; clear c5; obtain rfl := Option.some.inj H; go_enter Tryz.func80, Tryz.ntmps80
    go_wp2; go_ret
    exact ⟨by first | rfl | (simp; done) | (simp [*]; done), by repeat (first | exact Drawn0.refl _ | apply Drawn0.step)⟩
   · rw [if_neg c5] at H; exact absurd H (by simp)
  · rw [if_neg c4] at H; exact absurd H (by simp)
 ·
  rw [if_neg c3] at H; have c3b0 : decide ((a1.size : Int) ≤ (a0.size : Int)) = false := decide_eq_false c3; have c3b1 : decide (a1.size ≤ a0.size) = false := decide_eq_false (fun h => c3 (Int.ofNat_le.mpr h)); clear c3; obtain rfl := Option.some.inj H; go_enter Tryz.func80, Tryz.ntmps80
  go_wp2; go_ret
  exact ⟨by first | rfl | (simp; done) | (simp [*]; done), by repeat (first | exact Drawn0.refl _ | apply Drawn0.step)⟩
def stringslite_CutPrefix.f (a0 : ByteArray) (a1 : ByteArray) : Option (ByteArray × Bool) := (stringslite_HasPrefix.f a0 a1).bind fun t185 => (if t185 = true then (if 0 ≤ (a1.size : Int) then (if (a1.size : Int) ≤ (a0.size : Int) then (some (a0.extract ((a1.size : Int) : Int).toNat a0.size, true)) else (none)) else (none)) else (some (a0, false)))
set_option maxHeartbeats 8000000 in
set_option maxRecDepth 100000 in
theorem stringslite_CutPrefix.calls (a0 : ByteArray) (a1 : ByteArray) (r1 : ByteArray) (r2 : Bool) (w : World) (h : stringslite_CutPrefix.f a0 a1 = some (r1, r2)) :
  Calls Tryz.prog 72 #[.string a0, .string a1] w fun e w' => e = .returned (.tuple #[.string r1, .bool r2]) ∧ Drawn0 w w' := by
 have H : ((stringslite_HasPrefix.f a0 a1).bind fun t185 => (if t185 = true then (if 0 ≤ (a1.size : Int) then (if (a1.size : Int) ≤ (a0.size : Int) then (some (a0.extract ((a1.size : Int) : Int).toNat a0.size, true)) else (none)) else (none)) else (some (a0, false)))) = some (r1, r2) := h; clear h; replace H := Option.bind_eq_some_iff.mp H; obtain ⟨t185, A30, H⟩ := H; replace H : (if t185 = true then (if 0 ≤ (a1.size : Int) then (if (a1.size : Int) ≤ (a0.size : Int) then (some (a0.extract ((a1.size : Int) : Int).toNat a0.size, true)) else (none)) else (none)) else (some (a0, false))) = some (r1, r2) := H; have A3 := Aside0.mk A30; clear A30; by_cases c4 : t185 = true
 ·
  subst c4; have H1 : (if 0 ≤ (a1.size : Int) then (if (a1.size : Int) ≤ (a0.size : Int) then (some (a0.extract ((a1.size : Int) : Int).toNat a0.size, true)) else (none)) else (none)) = some (r1, r2) := by rw [if_pos rfl] at H; exact H
  clear H; have H := H1; clear H1; by_cases c5 : 0 ≤ (a1.size : Int)
  ·
   rw [if_pos c5] at H; have c5b0 := eq_true c5; have c5b1 : decide (0 ≤ (a1.size : Int)) = true := decide_eq_true c5; clear c5; by_cases c6 : (a1.size : Int) ≤ (a0.size : Int)
   ·
    rw [if_pos c6] at H; have c6b0 := eq_true c6; have c6b1 : decide ((a1.size : Int) ≤ (a0.size : Int)) = true := decide_eq_true c6; clear c6; simp only [Option.some.injEq, Prod.mk.injEq] at H; obtain ⟨rfl, rfl⟩ := H; go_enter Tryz.func72, Tryz.ntmps72
    go_wp2_with (first | ((with_reducible refine gate_callee (f := 80) rfl ?_); refine goesL_ (some 8) rfl rfl Tryz.func80 (by kernel_rfl) rfl #[.string a0, .string a1] rfl (by (try simp only [List.map_toArray, List.map_cons, List.map_nil]); first | done | rfl | (simp only [List.length_drop, List.length_take]; rfl)) ?_; (with_reducible refine (stringslite_HasPrefix.calls a0 a1 true _ A3.out).mono ?_); rintro e w' ⟨rfl, ⟨nd, rfl⟩⟩; refine ⟨_, rfl, ?_⟩))
    go_ret2
    exact ⟨by first | rfl | (simp; done) | (simp [*]; done), by repeat (first | exact Drawn0.refl _ | apply Drawn0.step)⟩
   · rw [if_neg c6] at H; exact absurd H (by simp)
  · rw [if_neg c5] at H; exact absurd H (by simp)
 ·
  replace c4 := Bool.eq_false_iff.mpr c4; subst c4; have H1 : (some (a0, false)) = some (r1, r2) := by rw [if_neg (show ¬ (false = true) by decide)] at H; exact H
  clear H; have H := H1; clear H1; simp only [Option.some.injEq, Prod.mk.injEq] at H; obtain ⟨rfl, rfl⟩ := H; go_enter Tryz.func72, Tryz.ntmps72
  go_wp2_with (first | ((with_reducible refine gate_callee (f := 80) rfl ?_); refine goesL_ (some 8) rfl rfl Tryz.func80 (by kernel_rfl) rfl #[.string a0, .string a1] rfl (by (try simp only [List.map_toArray, List.map_cons, List.map_nil]); first | done | rfl | (simp only [List.length_drop, List.length_take]; rfl)) ?_; (with_reducible refine (stringslite_HasPrefix.calls a0 a1 false _ A3.out).mono ?_); rintro e w' ⟨rfl, ⟨nd, rfl⟩⟩; refine ⟨_, rfl, ?_⟩))
  go_ret2
  exact ⟨by first | rfl | (simp; done) | (simp [*]; done), by repeat (first | exact Drawn0.refl _ | apply Drawn0.step)⟩
def strings_CutPrefix.f (a0 : ByteArray) (a1 : ByteArray) : Option (ByteArray × Bool) := (stringslite_CutPrefix.f a0 a1).bind fun bt186 => (some (bt186.1, bt186.2))
set_option maxHeartbeats 8000000 in
set_option maxRecDepth 100000 in
theorem strings_CutPrefix.calls (a0 : ByteArray) (a1 : ByteArray) (r1 : ByteArray) (r2 : Bool) (w : World) (h : strings_CutPrefix.f a0 a1 = some (r1, r2)) :
  Calls Tryz.prog 58 #[.string a0, .string a1] w fun e w' => e = .returned (.tuple #[.string r1, .bool r2]) ∧ Drawn0 w w' := by
 have H : ((stringslite_CutPrefix.f a0 a1).bind fun bt186 => (some (bt186.1, bt186.2))) = some (r1, r2) := h; clear h; replace H := Option.bind_eq_some_iff.mp H; obtain ⟨⟨t186, t187⟩, A30, H⟩ := H; replace H : (some (t186, t187)) = some (r1, r2) := H; have A3 := Aside0.mk A30; clear A30; simp only [Option.some.injEq, Prod.mk.injEq] at H; obtain ⟨rfl, rfl⟩ := H; go_enter Tryz.func58, Tryz.ntmps58
 go_wp2_with (first | ((with_reducible refine gate_callee (f := 72) rfl ?_); refine goesL_ (some 8) rfl rfl Tryz.func72 (by kernel_rfl) rfl #[.string a0, .string a1] rfl (by (try simp only [List.map_toArray, List.map_cons, List.map_nil]); first | done | rfl | (simp only [List.length_drop, List.length_take]; rfl)) ?_; (with_reducible refine (stringslite_CutPrefix.calls a0 a1 t186 t187 _ A3.out).mono ?_); rintro e w' ⟨rfl, ⟨nd, rfl⟩⟩; refine ⟨_, rfl, ?_⟩))
 go_ret2
 exact ⟨by first | rfl | (simp; done) | (simp [*]; done), by repeat (first | exact Drawn0.refl _ | apply Drawn0.step)⟩
def slices_Index_string_string.l0 : Nat → List ByteArray → ByteArray → Int → Int → Option (Int)
 | 0, _, _, _, _ => none
 | k + 1, x0, x1, x7, x8 => if x8 < x7 then (if 0 ≤ x8 then (if x8 < (x0.length : Int) then (if x1.toList = (rdOf ByteArray.empty x0 x8).toList then (some x8) else (slices_Index_string_string.l0 k x0 x1 x7 (wrap64 (x8 + 1)))) else (none)) else (none)) else (some (-1))
def slices_Index_string_string.f (k : Nat) (l0 : List ByteArray) (a1 : ByteArray) : Option (Int) := slices_Index_string_string.l0 k l0 a1 (l0.length : Int) 0
set_option maxHeartbeats 8000000 in
set_option maxRecDepth 100000 in
theorem slices_Index_string_string.calls (k : Nat) (A0 : Option Addr) (c0 : Nat) (l0 : List ByteArray) (a1 : ByteArray) (r : Int) (w : World) (hr0 : Kd.C Kd.string w A0 l0.length l0) (hc0 : l0.length ≤ c0) (h : slices_Index_string_string.f k l0 a1 = some r) :
  Calls Tryz.prog 59 #[.slice A0 l0.length c0, .string a1] w fun e w' => e = .returned (.int .i64 r) ∧ Drawn0 w w' := by
 have HR0 := Aside0.mk hr0; have HC0 := Aside0.mk hc0; clear hr0 hc0; have H : (slices_Index_string_string.l0 k l0 a1 (l0.length : Int) 0) = some r := h; clear h; have H' := Aside0.mk H; clear H; go_enter Tryz.func59, Tryz.ntmps59
 go_wp2; go_loopg [8] k (fun kq v8 w' => ∃ (x8_1 : Int), v8 = .int .i64 x8_1 ∧ Aside0 (slices_Index_string_string.l0 kq l0 a1 (l0.length : Int) x8_1 = some r) ∧ Aside0 (kq ≤ k) ∧ Drawn0 w w')
 case atStart => exact ⟨(0), (by first | rfl | (simp; done) | (simp [*]; done)), H', ⟨Nat.le_refl _⟩, by repeat (first | exact Drawn0.refl _ | apply Drawn0.step)⟩
 case round =>
  clear H'; try clear p2
  obtain ⟨x8_1, rfl, HA, HK1, ⟨m1, rfl⟩⟩ := hrel
  cases gk with
  | zero => exact absurd HA.out (by simp [slices_Index_string_string.l0])
  | succ k1 =>
   have H := HA.out; clear HA; simp only [slices_Index_string_string.l0] at H; by_cases c3 : x8_1 < (l0.length : Int)
   ·
    rw [if_pos c3] at H; have c3b0 : decide (x8_1 < (l0.length : Int)) = true := decide_eq_true c3; clear c3; by_cases c4 : 0 ≤ x8_1
    ·
     rw [if_pos c4] at H; have c4b0 : decide (0 ≤ x8_1) = true := decide_eq_true c4; clear c4; by_cases c5 : x8_1 < (l0.length : Int)
     ·
      rw [if_pos c5] at H; have c5b0 : decide (x8_1 < (l0.length : Int)) = true := decide_eq_true c5; clear c5; by_cases c6 : a1.toList = (rdOf ByteArray.empty l0 x8_1).toList
      ·
       rw [if_pos c6] at H; have c6b0 : (a1.toList == (rdOf ByteArray.empty l0 x8_1).toList) = true := beq_iff_eq.mpr c6; have c6b1 : (a1.toList != (rdOf ByteArray.empty l0 x8_1).toList) = false := bne_eq_false_iff_eq.mpr c6; clear c6; obtain rfl := Option.some.inj H; have p188 : 0 ≤ (x8_1 : Int) := of_decide_eq_true (by first | (with_reducible assumption) | assumption); have q188 : x8_1 < (l0.length : Int) := of_decide_eq_true (by first | (with_reducible assumption) | assumption); obtain ⟨ad188, e188, hx188_0⟩ := Kd.at_string HR0.out x8_1 p188 q188; cases e188; replace p188 := eq_true p188; replace q188 := eq_true q188; go_wp2; go_ret
       exact ⟨by first | rfl | (simp; done) | (simp [*]; done), by repeat (first | exact Drawn0.refl _ | apply Drawn0.step)⟩
      ·
       rw [if_neg c6] at H; have c6b0 : (a1.toList == (rdOf ByteArray.empty l0 x8_1).toList) = false := beq_eq_false_iff_ne.mpr c6; have c6b1 : (a1.toList != (rdOf ByteArray.empty l0 x8_1).toList) = true := bne_iff_ne.mpr c6; have H' := Aside0.mk H; clear H; have p188 : 0 ≤ (x8_1 : Int) := of_decide_eq_true (by first | (with_reducible assumption) | assumption); have q188 : x8_1 < (l0.length : Int) := of_decide_eq_true (by first | (with_reducible assumption) | assumption); obtain ⟨ad188, e188, hx188_0⟩ := Kd.at_string HR0.out x8_1 p188 q188; cases e188; replace p188 := eq_true p188; replace q188 := eq_true q188; go_wp2; go_roundg k1
       case measure => have := HK1.out; omega
       case rel => exact ⟨(wrap64 (x8_1 + 1)), (by first | rfl | (simp; done) | (simp [*]; done)), H', ⟨by have := HK1.out; omega⟩, by repeat (first | exact Drawn0.refl _ | apply Drawn0.step)⟩
     · rw [if_neg c5] at H; exact absurd H (by simp)
    · rw [if_neg c4] at H; exact absurd H (by simp)
   ·
    rw [if_neg c3] at H; have c3b0 : decide (x8_1 < (l0.length : Int)) = false := decide_eq_false c3; clear c3; obtain rfl := Option.some.inj H; go_wp2; go_ret
    exact ⟨by first | rfl | (simp; done) | (simp [*]; done), by repeat (first | exact Drawn0.refl _ | apply Drawn0.step)⟩
end Go.Proofs.YtholbmidciapdaaGreatDoor.Pr
namespace Go.Proofs.YtholbmidciapdaaGreatDoor.TX
open Go Go.Lib
/-- The first piece, the rest behind its byte c, and whether there is one. -/
def cut1 (c : UInt8) : List UInt8 → List UInt8 × List UInt8 × Bool
  | [] => ([], [], false)
  | b :: r => if b = c then ([], r, true) else (b :: (cut1 c r).1, (cut1 c r).2.1, (cut1 c r).2.2)
theorem cut1_cons (c b : UInt8) (r : List UInt8) : cut1 c (b :: r) = if b = c then ([], r, true) else (b :: (cut1 c r).1, (cut1 c r).2.1, (cut1 c r).2.2) := rfl
theorem index_nil (c : UInt8) : index [] [c] = -1 := rfl
theorem index_cons (c b : UInt8) (r : List UInt8) : index (b :: r) [c] = if b = c then 0 else if index r [c] = -1 then -1 else index r [c] + 1 := by
  have e0 : index (b :: r) [c] = if [c].isPrefixOf (b :: r) then 0 else if index r [c] == -1 then -1 else index r [c] + 1 := rfl
  rw [e0]
  by_cases h : b = c
  · subst h; simp [List.isPrefixOf]
  · have h2 : (c == b) = false := by simpa using fun e => h e.symm
    rw [if_neg h]
    simp only [List.isPrefixOf, h2, Bool.false_and, Bool.false_eq_true, if_false]
    by_cases h3 : index r [c] = -1
    · simp [h3]
    · rw [if_neg (by simpa using h3), if_neg h3]
theorem cut_eq (c : UInt8) : ∀ s : List UInt8, cut s [c] = cut1 c s
  | [] => by unfold cut; rw [index_nil]; rfl
  | b :: r => by
    have ih := cut_eq c r
    have hg := index_ge r [c]
    unfold cut at ih ⊢
    rw [cut1_cons, index_cons]
    by_cases h : b = c
    · rw [if_pos h, if_pos h]; simp
    · rw [if_neg h, if_neg h, ← ih]
      by_cases h3 : index r [c] = -1
      · rw [if_pos h3]; simp [h3]
      · rw [if_neg h3, if_pos (by omega), if_pos (by omega)]
        have e : (index r [c] + 1).toNat = (index r [c]).toNat + 1 := by omega
        rw [e, show (index r [c]).toNat + 1 + [c].length = ((index r [c]).toNat + [c].length) + 1 from by omega]
        rfl
theorem cut1_len (c : UInt8) : ∀ s : List UInt8, (cut1 c s).2.2 = true → (cut1 c s).2.1.length < s.length
  | [], h => by simp [cut1] at h
  | b :: r, h => by
    rw [cut1_cons] at h ⊢
    by_cases e : b = c
    · rw [if_pos e]; simp
    · rw [if_neg e] at h ⊢
      have := cut1_len c r h
      simp only [List.length_cons]; omega
theorem cut1_no (c : UInt8) : ∀ s : List UInt8, (cut1 c s).2.2 = false → (cut1 c s).1 = s ∧ (cut1 c s).2.1 = []
  | [], _ => ⟨rfl, rfl⟩
  | b :: r, h => by
    rw [cut1_cons] at h ⊢
    by_cases e : b = c
    · rw [if_pos e] at h; simp at h
    · rw [if_neg e] at h ⊢
      have := cut1_no c r h
      exact ⟨by simp [this.1], this.2⟩
theorem countFrom_miss (c : UInt8) (n : Nat) (s : List UInt8) (h : index s [c] = -1) : countFrom [c] n s = 0 := by
  cases n with
  | zero => rfl
  | succ n => unfold countFrom; simp [h]
theorem count_le (c : UInt8) : ∀ (n : Nat) (s : List UInt8), countFrom [c] n s ≤ s.length
  | 0, s => Nat.zero_le _
  | n + 1, s => by
    by_cases e : index s [c] = -1
    · rw [countFrom_miss c _ s e]; omega
    · have e0 : 0 ≤ index s [c] := by have := index_ge s [c]; omega
      have hr := index_room s [c] e0
      have l1 : ([c] : List UInt8).length = 1 := rfl
      have ih := count_le c n (s.drop ((index s [c]).toNat + [c].length))
      rw [List.length_drop] at ih
      have e1 : (index s [c] == -1) = false := by simpa using e
      rw [countFrom, if_neg (by simp [e1])]
      rw [l1] at hr ih ⊢
      omega
theorem splitK_len (c : UInt8) : ∀ (n : Nat) (s : List UInt8), s.length < n → (splitK [c] 0 (countFrom [c] n s) s).length = countFrom [c] n s + 1
  | 0, s, h => by omega
  | n + 1, s, h => by
    by_cases e : index s [c] = -1
    · rw [countFrom_miss c _ s e]; rfl
    · have e0 : 0 ≤ index s [c] := by have := index_ge s [c]; omega
      have hr := index_room s [c] e0
      have l1 : ([c] : List UInt8).length = 1 := rfl
      rw [l1] at hr
      have ih := splitK_len c n (s.drop ((index s [c]).toNat + [c].length)) (by rw [List.length_drop, l1]; omega)
      have e1 : (index s [c] == -1) = false := by simpa using e
      have ec : countFrom [c] (n + 1) s = countFrom [c] n (s.drop ((index s [c]).toNat + [c].length)) + 1 := by
        rw [countFrom, if_neg (by simp [e1])]; omega
      rw [ec]
      unfold splitK
      rw [if_neg (by simp [e1]), List.length_cons, ih]
def isDig (b : UInt8) : Bool := decide (48 ≤ b.toNat) && decide (b.toNat ≤ 57)
/-- Digits, without a needless 0 ahead. -/
def Canon (s : List UInt8) : Prop := 1 ≤ s.length ∧ ¬ (1 < s.length ∧ s.head? = some 48) ∧ s.all isDig = true
instance (s : List UInt8) : Decidable (Canon s) := by unfold Canon; infer_instance
end Go.Proofs.YtholbmidciapdaaGreatDoor.TX
namespace Go.Proofs.YtholbmidciapdaaGreatDoor.X
open Go Go.RowKit Go.Proofs.YtholbmidciapdaaGreatDoor.TX Go.Proofs.YtholbmidciapdaaGreatDoorW.PrintWords Go.Proofs.YtholbmidciapdaaGreatDoorW.PrintLast Go.Proofs.YtholbmidciapdaaGreatDoorW.PrintMore
theorem below_drawn (w : World) (n : Nat) : Below w.heap.size w (w.drewN n) := ⟨rfl, rfl, rfl, Nat.le_refl _, fun _ _ => rfl⟩
/-- The first piece, the rest, and whether the byte stands in it. -/
def strings_Cut.f (a0 a1 : ByteArray) : Option (ByteArray × ByteArray × Bool) := if a0.size < 4294967281 then some (⟨(Lib.cut a0.data.toList a1.data.toList).1.toArray⟩, ⟨(Lib.cut a0.data.toList a1.data.toList).2.1.toArray⟩, (Lib.cut a0.data.toList a1.data.toList).2.2) else none
theorem strings_Cut.calls (a0 a1 r1 r2 : ByteArray) (r3 : Bool) (w : World) (hG : GI w) (h : strings_Cut.f a0 a1 = some (r1, r2, r3)) :
    Calls Tryz.prog 71 #[.string a0, .string a1] w fun e w' => e = .returned (.tuple #[.string r1, .string r2, .bool r3]) ∧ Below w.heap.size w w' := by
  unfold strings_Cut.f at h
  by_cases hs : a0.size < 4294967281
  · rw [if_pos hs] at h
    obtain ⟨m, hm⟩ := hG.max
    simp only [Option.some.injEq, Prod.mk.injEq] at h
    obtain ⟨rfl, rfl, rfl⟩ := h
    refine (Tryz.strings_Cut a0 a1 m w hs hm).mono ?_
    rintro e w' ⟨rfl, n, rfl⟩
    exact ⟨rfl, below_drawn w n⟩
  · rw [if_neg hs] at h; cases h
/-- All pieces. -/
def strings_Split.f (a0 a1 : ByteArray) : Option (List ByteArray) := if a0.size < 4294967281 ∧ a1.size = 1 then some (Lib.splitB a1 0 (Lib.countB a0 a1) a0) else none
theorem one_byte {b : ByteArray} (h : b.size = 1) : ∃ c, b = ⟨#[c]⟩ := by
  obtain ⟨⟨l⟩⟩ := b
  match l with
  | [] => cases h
  | [c] => exact ⟨c, rfl⟩
  | _ :: _ :: _ => simp [ByteArray.size] at h
theorem split_len (s : ByteArray) (c : UInt8) : (Lib.splitB ⟨#[c]⟩ 0 (Lib.countB s ⟨#[c]⟩) s).length = Lib.countB s ⟨#[c]⟩ + 1 := by
  have e := congrArg List.length (Lib.splitB_data ⟨#[c]⟩ 0 (Lib.countB s ⟨#[c]⟩) s)
  rw [List.length_map] at e
  rw [e]
  exact splitK_len c _ s.data.toList (by omega)
theorem strings_Split.calls (a0 a1 : ByteArray) (r : List ByteArray) (w : World) (hG : GI w) (h : strings_Split.f a0 a1 = some r) :
    Calls Tryz.prog 73 #[.string a0, .string a1] w fun e w' => ∃ v0_ : Value, e = .returned (v0_) ∧ Kd.R Kd.string 9 w' w.heap.size (fun _ => True) v0_ r ∧ Below w.heap.size w w' := by
  unfold strings_Split.f at h
  by_cases hs : a0.size < 4294967281 ∧ a1.size = 1
  · rw [if_pos hs] at h
    obtain ⟨m, hm⟩ := hG.max
    obtain rfl := Option.some.inj h
    obtain ⟨hs, h1⟩ := hs
    obtain ⟨c, rfl⟩ := one_byte h1
    have hl := split_len a0 c
    have hb : Lib.countB a0 ⟨#[c]⟩ ≤ a0.size := by
      have := count_le c (a0.data.toList.length + 1) a0.data.toList
      have e : a0.data.toList.length = a0.size := Array.length_toList
      have e2 : Lib.countB a0 ⟨#[c]⟩ = Lib.countFrom [c] (a0.data.toList.length + 1) a0.data.toList := rfl
      omega
    refine (Tryz.strings_Split a0 ⟨#[c]⟩ m w hs hm (by omega)).mono ?_
    rintro e w' ⟨rfl, rfl⟩
    refine ⟨_, rfl, ?_, below_alloc (Below.refl _ _) _⟩
    rw [← hl]
    have hm2 : (Lib.splitB ⟨#[c]⟩ 0 (Lib.countB a0 ⟨#[c]⟩) a0).length ≤ maxLen := by rw [hl]; simp only [maxLen]; omega
    clear hl
    generalize Lib.splitB ⟨#[c]⟩ 0 (Lib.countB a0 ⟨#[c]⟩) a0 = ps at hm2 ⊢
    refine Kd.R_of_own ⟨by simp [encs], .inr ⟨w.heap.size, _, (ps.map Value.string).toArray, rfl, Nat.le_refl _, ?_, Nat.le_refl _, hm2, by simp, by rw [Nat.mul_one]; exact List.take_of_length_le (by simp)⟩⟩ (fun _ _ => trivial)
    exact Array.getElem?_push_size
  · rw [if_neg hs] at h; cases h
/-- The number of a numeral, and whether there is an error. -/
def strconv_Atoi.f (a0 : ByteArray) : Option (Int × Option Int) := if a0.size ≤ 281474976710656 then (match Lib.atoiAll a0.data.toList with
  | .ok v => some (v, none)
  | .range => some (Lib.atoiSat a0.data.toList, some 0)
  | _ => some (0, some 0)) else none
theorem strconv_Atoi.oks (a0 : ByteArray) (r1 : Int) (w : World) (hG : GI w) (h : strconv_Atoi.f a0 = some (r1, none)) :
    Calls Tryz.prog 83 #[.string a0] w fun e w' => e = .returned (.tuple #[.int .i64 r1, .nilIface]) ∧ Below w.heap.size w w' := by
  unfold strconv_Atoi.f at h
  by_cases hs : a0.size ≤ 281474976710656
  · rw [if_pos hs] at h
    cases ha : Lib.atoiAll a0.data.toList with
    | ok v =>
      rw [ha] at h
      simp only [Option.some.injEq, Prod.mk.injEq, and_true] at h
      subst h
      refine (Tryz.strconv_Atoi_ok a0 (by omega) v ha w).mono ?_
      rintro e w' ⟨rfl, hw⟩
      refine ⟨rfl, ?_⟩
      rcases hw with rfl | ⟨t, rfl⟩
      · exact Below.refl _ _
      · exact Joins.below_bytesWorld _ w _ t (Nat.le_refl _)
    | range => rw [ha] at h; simp at h
    | _ => rw [ha] at h; simp at h
  · rw [if_neg hs] at h; cases h
theorem strconv_Atoi.fails (a0 : ByteArray) (r1 : Int) (q : Int) (w : World) (hG : GI w) (h : strconv_Atoi.f a0 = some (r1, some q)) :
    Calls Tryz.prog 83 #[.string a0] w fun e w' => ∃ b : Nat, e = .returned (.tuple #[.int .i64 r1, .iface 143 (.pointer (some ⟨b, 0, none⟩))]) ∧ Below w.heap.size w w' := by
  unfold strconv_Atoi.f at h
  by_cases hs : a0.size ≤ 281474976710656
  · rw [if_pos hs] at h
    obtain ⟨_, ⟨tp, p, h1⟩, ⟨tp2, p2, h2⟩, _⟩ := hG
    cases ha : Lib.atoiAll a0.data.toList with
    | ok v => rw [ha] at h; simp at h
    | range =>
      rw [ha] at h
      simp only [Option.some.injEq, Prod.mk.injEq] at h
      obtain ⟨rfl, _⟩ := h
      refine (Tryz.strconv_Atoi_range_var a0 hs ha tp2 p2 w h2).mono ?_
      rintro e w' ⟨N, rfl, _, _, hb⟩
      exact ⟨N, rfl, hb⟩
    | _ =>
      rw [ha] at h
      simp only [Option.some.injEq, Prod.mk.injEq] at h
      obtain ⟨rfl, _⟩ := h
      refine (Tryz.strconv_Atoi_syntax_var a0 hs ha tp p w h1).mono ?_
      rintro e w' ⟨N, rfl, _, _, hb⟩
      exact ⟨N, rfl, hb⟩
  · rw [if_neg hs] at h; cases h
end Go.Proofs.YtholbmidciapdaaGreatDoor.X
namespace Go.Proofs.YtholbmidciapdaaGreatDoor.X
open Go Go.RowKit Go.Lib Go.Proofs Go.Shelf
def strings_Trim.f (a0 a1 : ByteArray) : Option ByteArray := if a0.size < 4294967281 ∧ a1.size < 4294967281 ∧ a1.data.toList.all (fun b => decide (b.toNat < 128)) = true then some ⟨(Lib.trimS a0.data.toList a1.data.toList).toArray⟩ else none
theorem strings_Trim.calls (a0 a1 r : ByteArray) (w : World) (h : strings_Trim.f a0 a1 = some r) : Calls Tryz.prog 82 #[.string a0, .string a1] w fun e w' => e = .returned (.string r) ∧ Below w.heap.size w w' := by
  unfold strings_Trim.f at h
  by_cases hs : a0.size < 4294967281 ∧ a1.size < 4294967281 ∧ a1.data.toList.all (fun b => decide (b.toNat < 128)) = true
  · rw [if_pos hs] at h
    obtain rfl := Option.some.inj h
    exact Any.strings_Trim_laid Tryz.lays160 (by kernel_rfl) a0 a1 w (by omega) hs.2.1 (ascii_of_all hs.2.2)
  · rw [if_neg hs] at h; cases h
end Go.Proofs.YtholbmidciapdaaGreatDoor.X
