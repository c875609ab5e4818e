/-
A part of what these laws rest on: contracts of the functions that they reach, and plain lemmas.
-/
import Derived.Lib.AtoiAll
import Derived.Lib.IndexMore
import Derived.Lib.Split
import Derived.Shelf.Strings.SlTrimAscii
import Derived.RangeFuncNested
import Derived.RangeFuncBound
import Derived.RangeFuncCalls
import Derived.RangeFuncLeaves
import Derived.RangeFuncBox
import Derived.Shelf.Abstract
import Derived.Shelf.RegionOpen
import Derived.OwnWalkIn
import Derived.TacticsInMore
import Derived.LoopNIn
import Derived.LoopIn
import Derived.Test.YtholbmidciapdaaGreatDoorTariffBackC
set_option linter.unusedVariables false
set_option linter.unusedSimpArgs false
namespace Go.Proofs.YtholbmidciapdaaGreatDoor.Pr
open Go.RowKit Go.Proofs.YtholbmidciapdaaGreatDoorW.PrintWords Go.Proofs.YtholbmidciapdaaGreatDoorW.PrintLast Go.Proofs.YtholbmidciapdaaGreatDoorW.PrintMore Go.Proofs.YtholbmidciapdaaGreatDoor.X
attribute [local go_sem] max2_int min2_int max_two min_two max_three min_three max_four min_four   -- for this text's walks alone
set_option linter.unusedVariables false
set_option linter.unusedSimpArgs false
def flat26 (l : List S26) : List Value := l.flatMap fun x => [Value.int .i64 x.f0, Value.int .i64 x.f1, Value.int .i64 x.f2]
theorem flat26_cons (x : S26) (r : List S26) : flat26 (x :: r) = .int .i64 x.f0 :: .int .i64 x.f1 :: .int .i64 x.f2 :: flat26 r := rfl
theorem flat26_append (a b : List S26) : flat26 (a ++ b) = flat26 a ++ flat26 b := by simp [flat26]
theorem flat26_len (l : List S26) : (flat26 l).length = l.length * 3 := by
 induction l with
 | nil => rfl
 | cons x r ih => rw [flat26_cons]; simp only [List.length_cons, ih]; omega
theorem flat26_get (ys : List S26) : ∀ (j : Nat) (p : S26), ys[j]? = some p → ((flat26 ys).drop (j * 3)).take 3 = [.int .i64 p.f0, .int .i64 p.f1, .int .i64 p.f2] := by
 induction ys with
 | nil => intro j p hp; simp at hp
 | cons y r ih =>
  intro j p hp
  cases j with
  | zero => obtain rfl := Option.some.inj hp; rfl
  | succ j =>
   have := ih j p (by simpa using hp)
   rw [show (j + 1) * 3 = j * 3 + 1 + 1 + 1 from by omega]
   exact this
theorem flat26_take (l : List S26) : ∀ i, (flat26 l).take (i * 3) = flat26 (l.take i) := by
 induction l with
 | nil => intro i; simp [flat26]
 | cons x r ih =>
  intro i
  cases i with
  | zero => simp [flat26]
  | succ i => rw [show (i + 1) * 3 = i * 3 + 1 + 1 + 1 from by omega, flat26_cons, List.take_succ_cons, List.take_succ_cons, List.take_succ_cons, ih i, List.take_succ_cons, flat26_cons]
theorem flat26_drop (l : List S26) : ∀ i, (flat26 l).drop (i * 3) = flat26 (l.drop i) := by
 induction l with
 | nil => intro i; simp [flat26]
 | cons x r ih =>
  intro i
  cases i with
  | zero => simp [flat26]
  | succ i => rw [show (i + 1) * 3 = i * 3 + 1 + 1 + 1 from by omega, flat26_cons, List.drop_succ_cons, List.drop_succ_cons, List.drop_succ_cons, ih i, List.drop_succ_cons]
theorem flat26_one (l : List S26) : ∀ v ∈ flat26 l, v.oneCell' = true := by
 intro v hv
 obtain ⟨x, _, h⟩ := List.mem_flatMap.1 hv
 simp only [List.mem_cons, List.not_mem_nil, or_false] at h
 rcases h with rfl | rfl | rfl <;> rfl
theorem flat26_of {l : List S26} : ∀ {inner : List Value}, inner.length = l.length * 3 → (∀ j p, l[j]? = some p → (inner.drop (j * 3)).take 3 = [.int .i64 p.f0, .int .i64 p.f1, .int .i64 p.f2]) → inner = flat26 l := by
 induction l with
 | nil => intro inner hl _; exact List.eq_nil_of_length_eq_zero (by simpa using hl)
 | cons x r ih =>
  intro inner hl h
  have h0 := h 0 x rfl
  rw [Nat.zero_mul, List.drop_zero] at h0
  have h1 : inner.drop 3 = flat26 r := ih (by rw [List.length_drop, hl, List.length_cons]; omega) (fun j p hp => by
   have := h (j + 1) p (by simpa using hp)
   rw [List.drop_drop, show 3 + j * 3 = (j + 1) * 3 by omega]
   exact this)
  rw [← List.take_append_drop 3 inner, h0, h1]
  rfl
theorem own_R26 {w : World} {base : Nat} {v : Value} {xs : List S26} (h : w.ownsRow base 26 3 v xs.length (flat26 xs)) : Kd.R k26 26 w base (fun _ => True) v xs :=
 ⟨fun _ _ => trivial, flat26 xs, h, flat26_len xs, fun j p hp => by
  have e := flat26_get xs j p hp
  show k26.M _ _ _ p (((flat26 xs).drop (j * 3)).take 3)
  rw [e]
  exact k26_mkM _ _ _ p⟩
theorem R26_own {w : World} {base : Nat} {ok : Nat → Prop} {v : Value} {xs : List S26} (h : Kd.R k26 26 w base ok v xs) : w.ownsRow base 26 3 v xs.length (flat26 xs) := by
 obtain ⟨_, inner, ho, hl, hr⟩ := h
 have e : inner = flat26 xs := flat26_of hl (fun j p hp => k26_openM (hr j p hp))
 rw [← e]
 exact ho
def slices_Insert26.f (l0 : List S26) (i : Int) (xs : List S26) : Option (List S26) := if 0 ≤ i ∧ i ≤ (l0.length : Int) ∧ xs.length = 1 ∧ l0.length < 1099511627776 then some (l0.take i.toNat ++ xs ++ l0.drop i.toNat) else none
theorem slices_Insert26.own {base : Nat} {A A1 : Option Addr} {c0 c1 : Nat} {l0 xs r : List S26} {i : Int} {w : World} {okA okB : Nat → Prop} (HO : Kd.R k26 26 w base okA (.slice A l0.length c0) l0) (HX : Kd.R k26 26 w base okB (.slice A1 xs.length c1) xs)
  (hne : ∀ k, okB k → some k ≠ (Value.slice A l0.length c0).ownBlock) (hbase : base ≤ w.heap.size) (h : slices_Insert26.f l0 i xs = some r) :
  Calls Tryz.prog 43 #[.slice A l0.length c0, .int .i64 i, .slice A1 xs.length c1] w fun e w' => ∃ v, e = .returned v ∧ Kd.R k26 26 w' base (fun _ => True) v r ∧ w.grownBy w' (Value.slice A l0.length c0).ownBlock := by
 unfold slices_Insert26.f at h
 by_cases hc : 0 ≤ i ∧ i ≤ (l0.length : Int) ∧ xs.length = 1 ∧ l0.length < 1099511627776
 case neg => rw [if_neg hc] at h; cases h
 rw [if_pos hc] at h
 obtain rfl := Option.some.inj h
 obtain ⟨h0, h1, h2, h3⟩ := hc
 obtain ⟨n, rfl⟩ : ∃ n : Nat, i = (n : Int) := ⟨i.toNat, by omega⟩
 have ho := R26_own HO
 have hx := R26_own HX
 have hok := HX.1
 rw [Int.toNat_natCast]
 rw [h2] at hx hok ⊢
 rcases hx.2 with ⟨_, hz⟩ | ⟨g, cap, cur, e, hg, hh, _, _, _, htake⟩
 ·
  cases hz
 simp only [Value.slice.injEq] at e
 obtain ⟨rfl, _, rfl⟩ := e
 have hb : (Value.slice A l0.length c0).ownBlock ≠ some g := fun e => hne g (hok g rfl) e.symm
 refine (X.insert_own base l0.length n g c1 cur _ (flat26 l0) (flat26 xs) w (by omega) ho (by omega) (by rw [flat26_len, h2]) hbase hb hh (by simpa using htake) (flat26_one xs) (flat26_one l0)).mono ?_
 rintro e w' ⟨v', rfl, ho', hgr⟩
 refine ⟨v', rfl, own_R26 ?_, hgr⟩
 rw [flat26_take, flat26_drop, ← flat26_append, ← flat26_append] at ho'
 have hl : (l0.take n ++ xs ++ l0.drop n).length = l0.length + 1 := by simp only [List.length_append, List.length_take, List.length_drop, h2]; omega
 rw [hl]
 exact ho'
def tariff_Insert.f (k : Nat) (a0_0 : Int) (l0_1 : List (S26)) (a1_0 : Int) (a1_1 : Int) (a1_2 : Int) : Option (Int × (List (S26)) × Int) := (tariff_right.f k a0_0 l0_1).bind fun t134 => (if t134 = true then ((tariff_ranged.f a1_0 a1_1 a1_2).bind fun t135 => (if t135 = true then ((slices_Clone26.f l0_1).bind fun t136 => ((api_Rate_42_at_37.f k t136 a1_0 a1_1 a1_2).bind fun bt140 => (if bt140.2 = true then (if 0 ≤ bt140.1 then (if bt140.1 < (t136.length : Int) then (some (a0_0, (t136.set (bt140.1 : Int).toNat (⟨a1_0, a1_1, a1_2⟩ : S26)), 0)) else (none)) else (none)) else ((slices_Insert26.f t136 bt140.1 (([(⟨a1_0, a1_1, a1_2⟩ : S26)] : List (S26)))).bind fun t146 => (if (t146.length : Int) > 64 then (some (0, ([] : List (S26)), 8)) else (some (a0_0, t146, 0))))))) else (some (0, ([] : List (S26)), 2)))) else (some (0, ([] : List (S26)), 1)))
def tariff_Insert.T5 : Bool × List (List Nat × List Nat) := (true, [([], []), ([0], [0]), ([], []), ([2], [2]), ([3], [3]), ([1, 4], [1, 4]), ([], []), ([6, 5, 4, 0, 1, 2, 3, 4, 5, 6], [5, 6])])
def tariff_Insert.B5 : List Nat := [0, 1, 0, 4, 12, 31, 0, 127]
theorem tariff_Insert.tab5 : rtab .any (opsOf Tryz.f16 5) = tariff_Insert.T5 := by kernel_rfl
theorem tariff_Insert.bits5 : waitsOk tariff_Insert.T5.2 tariff_Insert.B5 = true := by kernel_rfl
set_option maxHeartbeats 8000000 in
set_option maxRecDepth 100000 in
theorem tariff_Insert.calls (k : Nat) (a0_0 : Int) (A0_1 : Option Addr) (c0_1 : Nat) (l0_1 : List (S26)) (a1_0 : Int) (a1_1 : Int) (a1_2 : Int) (r1 : Int) (r2 : List (S26)) (r3 : Int) (w : World) (hr0_1 : Kd.C k26 w A0_1 l0_1.length l0_1) (hc0_1 : l0_1.length ≤ c0_1) (h : tariff_Insert.f k a0_0 l0_1 a1_0 a1_1 a1_2 = some (r1, r2, r3)) :
  Calls Tryz.prog 16 #[.agg #[.int .i64 a0_0, .slice A0_1 l0_1.length c0_1], .agg #[.int .i64 a1_0, .int .i64 a1_1, .int .i64 a1_2]] w fun e w' => ∃ v1_ : Value, e = .returned (.tuple #[.agg #[.int .i64 r1, v1_], .int .i64 r3]) ∧ Kd.R k26 26 w' w.heap.size (fun _ => True) v1_ r2 ∧ Below w.heap.size w w' := by
 have hu24 := Tryz.underlying24; have hu26 := Tryz.underlying26; have HR0_1 := Aside0.mk hr0_1; have HC0_1 := Aside0.mk hc0_1; clear hr0_1 hc0_1; have HB := Aside0.mk (Below.refl w.heap.size w); have H : ((tariff_right.f k a0_0 l0_1).bind fun t134 => (if t134 = true then ((tariff_ranged.f a1_0 a1_1 a1_2).bind fun t135 => (if t135 = true then ((slices_Clone26.f l0_1).bind fun t136 => ((api_Rate_42_at_37.f k t136 a1_0 a1_1 a1_2).bind fun bt140 => (if bt140.2 = true then (if 0 ≤ bt140.1 then (if bt140.1 < (t136.length : Int) then (some (a0_0, (t136.set (bt140.1 : Int).toNat (⟨a1_0, a1_1, a1_2⟩ : S26)), 0)) else (none)) else (none)) else ((slices_Insert26.f t136 bt140.1 (([(⟨a1_0, a1_1, a1_2⟩ : S26)] : List (S26)))).bind fun t146 => (if (t146.length : Int) > 64 then (some (0, ([] : List (S26)), 8)) else (some (a0_0, t146, 0))))))) else (some (0, ([] : List (S26)), 2)))) else (some (0, ([] : List (S26)), 1)))) = some (r1, r2, r3) := h; clear h; replace H := Option.bind_eq_some_iff.mp H; obtain ⟨t134, A30, H⟩ := H; replace H : (if t134 = true then ((tariff_ranged.f a1_0 a1_1 a1_2).bind fun t135 => (if t135 = true then ((slices_Clone26.f l0_1).bind fun t136 => ((api_Rate_42_at_37.f k t136 a1_0 a1_1 a1_2).bind fun bt140 => (if bt140.2 = true then (if 0 ≤ bt140.1 then (if bt140.1 < (t136.length : Int) then (some (a0_0, (t136.set (bt140.1 : Int).toNat (⟨a1_0, a1_1, a1_2⟩ : S26)), 0)) else (none)) else (none)) else ((slices_Insert26.f t136 bt140.1 (([(⟨a1_0, a1_1, a1_2⟩ : S26)] : List (S26)))).bind fun t146 => (if (t146.length : Int) > 64 then (some (0, ([] : List (S26)), 8)) else (some (a0_0, t146, 0))))))) else (some (0, ([] : List (S26)), 2)))) else (some (0, ([] : List (S26)), 1))) = some (r1, r2, r3) := H; have A3 := Aside0.mk A30; clear A30; by_cases c4 : t134 = true
 ·
  subst c4; replace H : ((tariff_ranged.f a1_0 a1_1 a1_2).bind fun t135 => (if t135 = true then ((slices_Clone26.f l0_1).bind fun t136 => ((api_Rate_42_at_37.f k t136 a1_0 a1_1 a1_2).bind fun bt140 => (if bt140.2 = true then (if 0 ≤ bt140.1 then (if bt140.1 < (t136.length : Int) then (some (a0_0, (t136.set (bt140.1 : Int).toNat (⟨a1_0, a1_1, a1_2⟩ : S26)), 0)) else (none)) else (none)) else ((slices_Insert26.f t136 bt140.1 (([(⟨a1_0, a1_1, a1_2⟩ : S26)] : List (S26)))).bind fun t146 => (if (t146.length : Int) > 64 then (some (0, ([] : List (S26)), 8)) else (some (a0_0, t146, 0))))))) else (some (0, ([] : List (S26)), 2)))) = some (r1, r2, r3) := by rw [if_pos rfl] at H; exact H
  replace H := Option.bind_eq_some_iff.mp H; obtain ⟨t135, A50, H⟩ := H; replace H : (if t135 = true then ((slices_Clone26.f l0_1).bind fun t136 => ((api_Rate_42_at_37.f k t136 a1_0 a1_1 a1_2).bind fun bt140 => (if bt140.2 = true then (if 0 ≤ bt140.1 then (if bt140.1 < (t136.length : Int) then (some (a0_0, (t136.set (bt140.1 : Int).toNat (⟨a1_0, a1_1, a1_2⟩ : S26)), 0)) else (none)) else (none)) else ((slices_Insert26.f t136 bt140.1 (([(⟨a1_0, a1_1, a1_2⟩ : S26)] : List (S26)))).bind fun t146 => (if (t146.length : Int) > 64 then (some (0, ([] : List (S26)), 8)) else (some (a0_0, t146, 0))))))) else (some (0, ([] : List (S26)), 2))) = some (r1, r2, r3) := H; have A5 := Aside0.mk A50; clear A50; by_cases c6 : t135 = true
  ·
   subst c6; replace H : ((slices_Clone26.f l0_1).bind fun t136 => ((api_Rate_42_at_37.f k t136 a1_0 a1_1 a1_2).bind fun bt140 => (if bt140.2 = true then (if 0 ≤ bt140.1 then (if bt140.1 < (t136.length : Int) then (some (a0_0, (t136.set (bt140.1 : Int).toNat (⟨a1_0, a1_1, a1_2⟩ : S26)), 0)) else (none)) else (none)) else ((slices_Insert26.f t136 bt140.1 (([(⟨a1_0, a1_1, a1_2⟩ : S26)] : List (S26)))).bind fun t146 => (if (t146.length : Int) > 64 then (some (0, ([] : List (S26)), 8)) else (some (a0_0, t146, 0))))))) = some (r1, r2, r3) := by rw [if_pos rfl] at H; exact H
   replace H := Option.bind_eq_some_iff.mp H; obtain ⟨t136, A70, H⟩ := H; replace H : ((api_Rate_42_at_37.f k t136 a1_0 a1_1 a1_2).bind fun bt140 => (if bt140.2 = true then (if 0 ≤ bt140.1 then (if bt140.1 < (t136.length : Int) then (some (a0_0, (t136.set (bt140.1 : Int).toNat (⟨a1_0, a1_1, a1_2⟩ : S26)), 0)) else (none)) else (none)) else ((slices_Insert26.f t136 bt140.1 (([(⟨a1_0, a1_1, a1_2⟩ : S26)] : List (S26)))).bind fun t146 => (if (t146.length : Int) > 64 then (some (0, ([] : List (S26)), 8)) else (some (a0_0, t146, 0)))))) = some (r1, r2, r3) := H; have A7 := Aside0.mk A70; clear A70; replace H := Option.bind_eq_some_iff.mp H; obtain ⟨⟨t140, t141⟩, A80, H⟩ := H; replace H : (if t141 = true then (if 0 ≤ t140 then (if t140 < (t136.length : Int) then (some (a0_0, (t136.set (t140 : Int).toNat (⟨a1_0, a1_1, a1_2⟩ : S26)), 0)) else (none)) else (none)) else ((slices_Insert26.f t136 t140 (([(⟨a1_0, a1_1, a1_2⟩ : S26)] : List (S26)))).bind fun t146 => (if (t146.length : Int) > 64 then (some (0, ([] : List (S26)), 8)) else (some (a0_0, t146, 0))))) = some (r1, r2, r3) := H; have A8 := Aside0.mk A80; clear A80; by_cases c9 : t141 = true
   ·
    subst c9; replace H : (if 0 ≤ t140 then (if t140 < (t136.length : Int) then (some (a0_0, (t136.set (t140 : Int).toNat (⟨a1_0, a1_1, a1_2⟩ : S26)), 0)) else (none)) else (none)) = some (r1, r2, r3) := by rw [if_pos rfl] at H; exact H
    by_cases c10 : 0 ≤ t140
    ·
     rw [if_pos c10] at H; have c10b0 : decide (0 ≤ t140) = true := decide_eq_true c10; clear c10; by_cases c11 : t140 < (t136.length : Int)
     ·
      rw [if_pos c11] at H; have c11b0 : decide (t140 < (t136.length : Int)) = true := decide_eq_true c11; clear c11; obtain ⟨y142, hy142⟩ : ∃ y_ : List (S26), y_ = (t136.set (t140 : Int).toNat (⟨a1_0, a1_1, a1_2⟩ : S26)) := ⟨_, rfl⟩; replace H : (some (a0_0, y142, 0)) = some (r1, r2, r3) := by first | (rw [hy142]; with_reducible exact H) | (have H2_ := (Option.bind_some _ _).symm.trans H; rw [hy142]; with_reducible exact H2_) | (have H2_ := (Option.bind_some _ _).symm.trans H; with_reducible exact H2_) | with_reducible exact H | (rw [hy142]; exact H) | exact H
      have Ny142 := Aside0.mk hy142; clear hy142; simp only [Option.some.injEq, Prod.mk.injEq] at H; obtain ⟨rfl, rfl, rfl⟩ := H; go_enter Tryz.func16, Tryz.ntmps16
      try go_wp2_with (first | ((with_reducible refine gate_dst (N := 2) rfl ?_); refine box_event ?hg (N := 2) ?hd (cs := #[.int .i64 a0_0, .slice A0_1 l0_1.length c0_1]) (t := 24) ?hr ?_; (case hd => rfl); (case hg => rfl); (case hr => first | (go_simp; done) | (go_simp; rfl)); intro gb131 hg w13 hbox hb; have n0_ := Aside0.mk (below_step (eG HB.out) hb); have n1_ := Aside0.mk (hbox); have n2_ := Aside0.mk ((by rw [hg]; exact (below_size (eG HB.out)) : w.heap.size ≤ gb131)); have n3_ := Aside0.mk ((by rw [hg]; exact (below_size (eG HB.out)) : w.heap.size ≤ gb131)); clear HB; have HB := n0_; have BK131 := n1_; have GW131 := n2_; have GE131 := n3_; have ig131_ := geI GE131; clear n0_ n1_ n2_ n3_; clear hb hbox hg) | ((with_reducible refine gate_dst (N := 3) rfl ?_); refine box_event ?hg (N := 3) ?hd (cs := #[.int .i64 a1_0, .int .i64 a1_1, .int .i64 a1_2]) (t := 26) ?hr ?_; (case hd => rfl); (case hg => rfl); (case hr => first | (go_simp; done) | (go_simp; rfl)); intro gb132 hg w14 hbox hb; have n0_ := Aside0.mk (blk_below (bG BK131.out) hb); have n1_ := Aside0.mk (below_step (eG HB.out) hb); have n2_ := Aside0.mk (hbox); have n3_ := Aside0.mk ((by rw [hg]; exact (below_size (eG HB.out)) : w.heap.size ≤ gb132)); have n4_ := Aside0.mk ((by rw [hg]; exact (below_size (eG HB.out)) : w.heap.size ≤ gb132)); have n5_ := Aside0.mk ((by rw [hg]; exact Nat.ne_of_lt (blk_lt (bG BK131.out)) : gb131 ≠ gb132)); have n6_ := Aside0.mk ((by rw [hg]; exact Nat.ne_of_gt (blk_lt (bG BK131.out)) : gb132 ≠ gb131)); clear BK131; clear HB; have BK131 := n0_; have HB := n1_; have BK132 := n2_; have GW132 := n3_; have GE132 := n4_; have ig132_ := geI GE132; have NB131_132 := n5_; have NB132_131 := n6_; clear n0_ n1_ n2_ n3_ n4_ n5_ n6_; clear hb hbox hg) | ((with_reducible refine gate_dst (N := 4) rfl ?_); refine box_event ?hg (N := 4) ?hd (cs := #[.int .i64 0, .slice none 0 0]) (t := 24) ?hr ?_; (case hd => rfl); (case hg => rfl); (case hr => first | (go_simp; done) | (go_simp; rfl)); intro gb133 hg w15 hbox hb; have n0_ := Aside0.mk (blk_below (bG BK131.out) hb); have n1_ := Aside0.mk (blk_below (bG BK132.out) hb); have n2_ := Aside0.mk (below_step (eG HB.out) hb); have n3_ := Aside0.mk (hbox); have n4_ := Aside0.mk ((by rw [hg]; exact (below_size (eG HB.out)) : w.heap.size ≤ gb133)); have n5_ := Aside0.mk ((by rw [hg]; exact (below_size (eG HB.out)) : w.heap.size ≤ gb133)); have n6_ := Aside0.mk ((by rw [hg]; exact Nat.ne_of_lt (blk_lt (bG BK131.out)) : gb131 ≠ gb133)); have n7_ := Aside0.mk ((by rw [hg]; exact Nat.ne_of_gt (blk_lt (bG BK131.out)) : gb133 ≠ gb131)); have n8_ := Aside0.mk ((by rw [hg]; exact Nat.ne_of_lt (blk_lt (bG BK132.out)) : gb132 ≠ gb133)); have n9_ := Aside0.mk ((by rw [hg]; exact Nat.ne_of_gt (blk_lt (bG BK132.out)) : gb133 ≠ gb132)); clear BK131; clear BK132; clear HB; have BK131 := n0_; have BK132 := n1_; have HB := n2_; have BK133 := n3_; have GW133 := n4_; have GE133 := n5_; have ig133_ := geI GE133; have NB131_133 := n6_; have NB133_131 := n7_; have NB132_133 := n8_; have NB133_132 := n9_; clear n0_ n1_ n2_ n3_ n4_ n5_ n6_ n7_ n8_ n9_; clear hb hbox hg; have hnb16 := NB131_132.out; have hnc16 := NB132_131.out; have hnb17 := NB131_133.out; have hnc17 := NB133_131.out; have hcz18_0 : w15.cell? ⟨gb131, 0, none⟩ = some (.int .i64 a0_0) := (blk_cell BK131.out 0).trans rfl; have hcz18_1 : w15.cell? ⟨gb131, 1, none⟩ = some (.slice A0_1 l0_1.length c0_1) := (blk_cell BK131.out 1).trans rfl; have hfz18_0 := blk_frozen BK131.out 0; have hfz18_1 := blk_frozen BK131.out 1) | ((with_reducible refine gate_callee (f := 41) rfl ?_); refine goesL_ (some 11) rfl rfl Tryz.func41 (by kernel_rfl) rfl #[.agg #[.int .i64 a0_0, .slice A0_1 l0_1.length c0_1]] rfl (by (try simp only [List.map_toArray, List.map_cons, List.map_nil]); first | done | rfl | (simp only [List.length_drop, List.length_take]; rfl)) ?_; (with_reducible refine (tariff_right.calls k a0_0 _ _ l0_1 true _ ?side1 ?side2 A3.out).mono ?_); (case side1 => repeat (first | exact (Kd.C_below HR0_1.out HB.out) | (with_reducible refine Kd.C_alloc ?_ _) | (with_reducible refine Kd.C_drewN ?_ _) | (with_reducible refine Kd.C_drew ?_))); (case side2 => exact HC0_1.out); rintro e w19 ⟨rfl, hb⟩; refine ⟨_, rfl, ?_⟩; have n0_ := Aside0.mk (blk_below (bG BK131.out) hb); have n1_ := Aside0.mk (blk_below (bG BK132.out) hb); have n2_ := Aside0.mk (blk_below (bG BK133.out) hb); have n3_ := Aside0.mk (below_step (eG HB.out) hb); clear BK131; clear BK132; clear BK133; clear HB; have BK131 := n0_; have BK132 := n1_; have BK133 := n2_; have HB := n3_; clear n0_ n1_ n2_ n3_; (try clear hb); (try clear hb2); (try clear hk); (try clear hi); have hnb20 := NB132_133.out; have hnc20 := NB133_132.out; have hcz21_0 : w19.cell? ⟨gb132, 0, none⟩ = some (.int .i64 a1_0) := (blk_cell BK132.out 0).trans rfl; have hcz21_1 : w19.cell? ⟨gb132, 1, none⟩ = some (.int .i64 a1_1) := (blk_cell BK132.out 1).trans rfl; have hcz21_2 : w19.cell? ⟨gb132, 2, none⟩ = some (.int .i64 a1_2) := (blk_cell BK132.out 2).trans rfl; have hfz21_0 := blk_frozen BK132.out 0; have hfz21_1 := blk_frozen BK132.out 1; have hfz21_2 := blk_frozen BK132.out 2) | ((with_reducible refine gate_callee (f := 36) rfl ?_); refine goesL_ (some 16) rfl rfl Tryz.func36 (by kernel_rfl) rfl #[.agg #[.int .i64 a1_0, .int .i64 a1_1, .int .i64 a1_2]] rfl (by (try simp only [List.map_toArray, List.map_cons, List.map_nil]); first | done | rfl | (simp only [List.length_drop, List.length_take]; rfl)) ?_; (with_reducible refine (tariff_ranged.calls a1_0 a1_1 a1_2 true _ A5.out).mono ?_); rintro e w22 ⟨rfl, hb⟩; refine ⟨_, rfl, ?_⟩; have n0_ := Aside0.mk (blk_below (bG BK131.out) hb); have n1_ := Aside0.mk (blk_below (bG BK132.out) hb); have n2_ := Aside0.mk (blk_below (bG BK133.out) hb); have n3_ := Aside0.mk (below_step (eG HB.out) hb); clear BK131; clear BK132; clear BK133; clear HB; have BK131 := n0_; have BK132 := n1_; have BK133 := n2_; have HB := n3_; clear n0_ n1_ n2_ n3_; (try clear hb); (try clear hb2); (try clear hk); (try clear hi)))
      have n0_ := Aside0.mk (blk_drew BK131.out); have n1_ := Aside0.mk (blk_drew BK132.out); have n2_ := Aside0.mk (blk_drew BK133.out); have n3_ := Aside0.mk (below_drew1 HB.out); clear BK131; clear BK132; clear BK133; clear HB; have BK131 := n0_; have BK132 := n1_; have BK133 := n2_; have HB := n3_; clear n0_ n1_ n2_ n3_; refine start_ (n := 8) (S := fun w' => w'.cell? ⟨gb131, 0, none⟩ = some (.int .i64 a0_0) ∧ w'.cell? ⟨gb131, 1, none⟩ = some (.slice A0_1 l0_1.length c0_1)) (ds := []) #[false, false, false, false, false, false, false, false] (by kernel_rfl) rfl rfl ⟨(blk_cell BK131.out 0).trans rfl, (blk_cell BK131.out 1).trans rfl⟩ (fun hHeld => ?_); refine with_tabW tariff_Insert.tab5 tariff_Insert.bits5 (fun HT_ HW_ => ?_)
      generalize w22.drew = w23 at BK131 BK132 BK133 HB hHeld ⊢; refine pure_ (i := 0) (N := some 19) (v := ?_) (a' := ?_) #[true, false, false, false, false, false, false, false] rfl rfl (any_of HT_.out (by kernel_rfl)) (fun _ _ _ h => h) (Or.inl ⟨by rfl, ?_⟩) ?_ ?_; rotate_left
      · intro w'; go_simp; with_reducible rfl
      rotate_left
      · simp only [Act.put, sIA, sC0, sCS, i64_w, i32_w]; rfl
      refine pure_ (i := 2) (N := some 21) (v := ?_) (a' := ?_) #[true, false, true, false, false, false, false, false] rfl rfl (any_of HT_.out (by kernel_rfl)) (fun _ _ _ h => h) (Or.inl ⟨by rfl, ?_⟩) ?_ ?_; rotate_left
      · intro w'; go_simp; with_reducible rfl
      rotate_left
      · simp only [Act.put, sIA, sC0, sCS, i64_w, i32_w]; rfl
      refine take_ (i := 1) (N := some 20) (v := ?_) (a' := ?_) #[true, true, true, false, false, false, false, false] rfl rfl (take_ofW HT_.out HW_.out (by kernel_rfl)) (fun _ _ _ h => h) (Or.inl ⟨by rfl, ?_⟩) hHeld ?_ ?_; rotate_left
      · rintro w' ⟨s0, s1⟩; go_simp; with_reducible rfl
      rotate_left
      · simp only [Act.put, sIA, sC0, sCS, i64_w, i32_w]; rfl
      refine take_ (i := 3) (N := some 22) (v := ?_) (a' := ?_) #[true, true, true, true, false, false, false, false] rfl rfl (take_ofW HT_.out HW_.out (by kernel_rfl)) (fun _ _ _ h => h) (Or.inl ⟨by rfl, ?_⟩) hHeld ?_ ?_; rotate_left
      · rintro w' ⟨s0, s1⟩; go_simp; with_reducible rfl
      rotate_left
      · simp only [Act.put, sIA, sC0, sCS, i64_w, i32_w]; rfl
      refine join_ (σ := Value × Nat) 1 #[true, true, true, true, true, true, true, false] (fun s_ => [(23, s_.1), (6, .pointer (some ⟨s_.2, 0, none⟩)), (24, .agg #[.int .i64 a0_0, s_.1])]) (fun s_ w' => (w'.cell? ⟨gb131, 0, none⟩ = some (.int .i64 a0_0) ∧ w'.cell? ⟨gb131, 1, none⟩ = some (.slice A0_1 l0_1.length c0_1)) ∧ (Kd.R k26 26 w' w.heap.size (fun k_ => k_ ≠ gb132) s_.1 t136) ∧ (w'.heap[gb131]? = some (.cells #[.int .i64 a0_0, .slice A0_1 l0_1.length c0_1] 24 (0, 0))) ∧ (w'.heap[gb132]? = some (.cells #[.int .i64 a1_0, .int .i64 a1_1, .int .i64 a1_2] 26 (0, 0))) ∧ (w'.heap[gb133]? = some (.cells #[.int .i64 0, .slice none 0 0] 24 (0, 0))) ∧ (w'.heap[s_.2]? = some (.cells #[.int .i64 0, .slice none 0 0] 24 (0, 0))) ∧ (w.heap.size ≤ s_.2) ∧ (w.heap.size ≤ s_.2) ∧ (gb131 ≠ s_.2) ∧ (s_.2 ≠ gb131) ∧ (gb132 ≠ s_.2) ∧ (s_.2 ≠ gb132) ∧ (gb133 ≠ s_.2) ∧ (s_.2 ≠ gb133) ∧ (Below w.heap.size w w')) ?_ ?_; rotate_left
      ·
       intro hCont; refine two_ (i := 4) (j := 6) (Ni := some 23) (Nj := some 6) #[true, true, true, true, true, false, false, false] #[true, true, true, true, false, false, true, false] rfl rfl rfl rfl (two_of HT_.out (by kernel_rfl)) (by decide) (by decide) (fun K hK => ?_) (fun K hK => ?_)
       ·
        skip
        refine goes_ Tryz.func38 (by kernel_rfl) rfl #[.slice A0_1 l0_1.length c0_1] (by rfl) rfl rfl (by (try simp only [List.map_toArray, List.map_cons, List.map_nil]); first | done | rfl | (simp only [List.length_drop, List.length_take]; rfl)) ?_; with_reducible refine (slices_Clone26.calls _ _ l0_1 t136 _ ?side1 ?side2 A7.out).mono ?_
        (case side1 => repeat (first | exact (Kd.C_below HR0_1.out HB.out) | (with_reducible refine Kd.C_alloc ?_ _) | (with_reducible refine Kd.C_drewN ?_ _) | (with_reducible refine Kd.C_drew ?_)))
        (case side2 => exact HC0_1.out)
        rintro e w24 ⟨v137, rfl, ho0, hb⟩; refine ⟨_, rfl, ?_⟩; have n0_ := Aside0.mk (Kd.R_lower (Kd.R_newB ho0 (bG BK132.out)) (below_size (eG HB.out))); have n1_ := Aside0.mk (blk_below (bG BK131.out) hb); have n2_ := Aside0.mk (blk_below (bG BK132.out) hb); have n3_ := Aside0.mk (blk_below (bG BK133.out) hb); have n4_ := Aside0.mk (below_step (eG HB.out) hb); clear BK131; clear BK132; clear BK133; clear HB; have HO138 := n0_; have BK131 := n1_; have BK132 := n2_; have BK133 := n3_; have HB := n4_; clear n0_ n1_ n2_ n3_ n4_; (try clear hb)
        (try clear hb2)
        (try clear hk)
        (try clear hi)
        (try clear ho0)
        obtain ⟨Ao25, co25, eo25⟩ := Kd.R_slice HO138.out; (first | subst eo25 | (injection eo25 with f1_ f2_ f3_; have f4_ := f1_.symm; have f5_ := f3_.symm; clear f1_ f2_ f3_; subst f4_; subst f5_))
        refine hK.out _ _ ⟨(blk_cell BK131.out 0).trans rfl, (blk_cell BK131.out 1).trans rfl⟩ (fun hHeld => ?_); clear hK K; refine norm_ (a' := ?_) ?_ ?_; rotate_left
        ·
         show Act.put _ (some 23) _ = _
         simp only [Act.put, sIA, sC0, sCS, i64_w, i32_w]; rfl
        refine pure_ (i := 5) (N := some 24) (v := ?_) (a' := ?_) #[true, true, true, true, true, true, false, false] rfl rfl (any_of HT_.out (by kernel_rfl)) (fun _ _ _ h => h) (Or.inl ⟨by rfl, ?_⟩) ?_ ?_; rotate_left
        · intro w'; go_simp; with_reducible rfl
        rotate_left
        · simp only [Act.put, sIA, sC0, sCS, i64_w, i32_w]; rfl
        refine one_ (i := 6) (N := some 6) #[true, true, true, true, true, true, true, false] rfl rfl (one_of HT_.out (by kernel_rfl)) (by decide) (fun K hK => ?_); refine box_step ?hg (N := 6) ?hd (cs := #[.int .i64 0, .slice none 0 0]) (t := 24) ?hr ?_; (case hd => rfl); (case hg => rfl); (case hr => first | (go_simp; done) | (go_simp; rfl))
        intro gb139 hg w26 hbox hb; have n0_ := Aside0.mk (Kd.R_below (rG HO138.out) hb); have n1_ := Aside0.mk (blk_below (bG BK131.out) hb); have n2_ := Aside0.mk (blk_below (bG BK132.out) hb); have n3_ := Aside0.mk (blk_below (bG BK133.out) hb); have n4_ := Aside0.mk (below_step (eG HB.out) hb); have n5_ := Aside0.mk (hbox); have n6_ := Aside0.mk ((by rw [hg]; exact (below_size (eG HB.out)) : w.heap.size ≤ gb139)); have n7_ := Aside0.mk ((by rw [hg]; exact (below_size (eG HB.out)) : w.heap.size ≤ gb139)); have n8_ := Aside0.mk ((by rw [hg]; exact Nat.ne_of_lt (blk_lt (bG BK131.out)) : gb131 ≠ gb139)); have n9_ := Aside0.mk ((by rw [hg]; exact Nat.ne_of_gt (blk_lt (bG BK131.out)) : gb139 ≠ gb131)); have n10_ := Aside0.mk ((by rw [hg]; exact Nat.ne_of_lt (blk_lt (bG BK132.out)) : gb132 ≠ gb139)); have n11_ := Aside0.mk ((by rw [hg]; exact Nat.ne_of_gt (blk_lt (bG BK132.out)) : gb139 ≠ gb132)); have n12_ := Aside0.mk ((by rw [hg]; exact Nat.ne_of_lt (blk_lt (bG BK133.out)) : gb133 ≠ gb139)); have n13_ := Aside0.mk ((by rw [hg]; exact Nat.ne_of_gt (blk_lt (bG BK133.out)) : gb139 ≠ gb133)); clear HO138; clear BK131; clear BK132; clear BK133; clear HB; have HO138 := n0_; have BK131 := n1_; have BK132 := n2_; have BK133 := n3_; have HB := n4_; have BK139 := n5_; have GW139 := n6_; have GE139 := n7_; have ig139_ := geI GE139
        have NB131_139 := n8_; have NB139_131 := n9_; have NB132_139 := n10_; have NB139_132 := n11_; have NB133_139 := n12_; have NB139_133 := n13_; clear n0_ n1_ n2_ n3_ n4_ n5_ n6_ n7_ n8_ n9_ n10_ n11_ n12_ n13_; clear hb hbox hg; refine hK.out _ _ ⟨(blk_cell BK131.out 0).trans rfl, (blk_cell BK131.out 1).trans rfl⟩ (fun hHeld => ?_); clear hK K; refine norm_ (a' := ?_) ?_ ?_; rotate_left
        ·
         show Act.put _ (some 6) _ = _
         simp only [Act.put, sIA, sC0, sCS, i64_w, i32_w]; rfl
        exact norm_ (by simp only [putAll, Act.put, sIA, sC0, sCS]) (hCont (.slice Ao25 t136.length co25, gb139) _ ⟨hHeld, (by (with_reducible repeat (first | apply Kd.R_alloc | apply Kd.R_drewN | apply Kd.R_drew)); exact Kd.R_mono HO138.out (fun _ hk => hk.2)), (bG BK131.out), (bG BK132.out), (bG BK133.out), (bG BK139.out), GW139.out, GE139.out, NB131_139.out, NB139_131.out, NB132_139.out, NB139_132.out, NB133_139.out, NB139_133.out, (eG HB.out)⟩)
       ·
        skip
        refine box_step ?hg (N := 6) ?hd (cs := #[.int .i64 0, .slice none 0 0]) (t := 24) ?hr ?_; (case hd => rfl); (case hg => rfl); (case hr => first | (go_simp; done) | (go_simp; rfl))
        intro gb139 hg w24 hbox hb; have n0_ := Aside0.mk (blk_below (bG BK131.out) hb); have n1_ := Aside0.mk (blk_below (bG BK132.out) hb); have n2_ := Aside0.mk (blk_below (bG BK133.out) hb); have n3_ := Aside0.mk (below_step (eG HB.out) hb); have n4_ := Aside0.mk (hbox); have n5_ := Aside0.mk ((by rw [hg]; exact (below_size (eG HB.out)) : w.heap.size ≤ gb139)); have n6_ := Aside0.mk ((by rw [hg]; exact (below_size (eG HB.out)) : w.heap.size ≤ gb139)); have n7_ := Aside0.mk ((by rw [hg]; exact Nat.ne_of_lt (blk_lt (bG BK131.out)) : gb131 ≠ gb139)); have n8_ := Aside0.mk ((by rw [hg]; exact Nat.ne_of_gt (blk_lt (bG BK131.out)) : gb139 ≠ gb131)); have n9_ := Aside0.mk ((by rw [hg]; exact Nat.ne_of_lt (blk_lt (bG BK132.out)) : gb132 ≠ gb139)); have n10_ := Aside0.mk ((by rw [hg]; exact Nat.ne_of_gt (blk_lt (bG BK132.out)) : gb139 ≠ gb132)); have n11_ := Aside0.mk ((by rw [hg]; exact Nat.ne_of_lt (blk_lt (bG BK133.out)) : gb133 ≠ gb139)); have n12_ := Aside0.mk ((by rw [hg]; exact Nat.ne_of_gt (blk_lt (bG BK133.out)) : gb139 ≠ gb133)); clear BK131; clear BK132; clear BK133; clear HB; have BK131 := n0_; have BK132 := n1_; have BK133 := n2_; have HB := n3_; have BK139 := n4_; have GW139 := n5_; have GE139 := n6_; have ig139_ := geI GE139
        have NB131_139 := n7_; have NB139_131 := n8_; have NB132_139 := n9_; have NB139_132 := n10_; have NB133_139 := n11_; have NB139_133 := n12_; clear n0_ n1_ n2_ n3_ n4_ n5_ n6_ n7_ n8_ n9_ n10_ n11_ n12_; clear hb hbox hg; refine hK.out _ _ ⟨(blk_cell BK131.out 0).trans rfl, (blk_cell BK131.out 1).trans rfl⟩ (fun hHeld => ?_); clear hK K; refine norm_ (a' := ?_) ?_ ?_; rotate_left
        ·
         show Act.put _ (some 6) _ = _
         simp only [Act.put, sIA, sC0, sCS, i64_w, i32_w]; rfl
        refine one_ (i := 4) (N := some 23) #[true, true, true, true, true, false, true, false] rfl rfl (one_of HT_.out (by kernel_rfl)) (by decide) (fun K hK => ?_); refine goes_ Tryz.func38 (by kernel_rfl) rfl #[.slice A0_1 l0_1.length c0_1] (by rfl) rfl rfl (by (try simp only [List.map_toArray, List.map_cons, List.map_nil]); first | done | rfl | (simp only [List.length_drop, List.length_take]; rfl)) ?_; with_reducible refine (slices_Clone26.calls _ _ l0_1 t136 _ ?side1 ?side2 A7.out).mono ?_
        (case side1 => repeat (first | exact (Kd.C_below HR0_1.out HB.out) | (with_reducible refine Kd.C_alloc ?_ _) | (with_reducible refine Kd.C_drewN ?_ _) | (with_reducible refine Kd.C_drew ?_)))
        (case side2 => exact HC0_1.out)
        rintro e w25 ⟨v137, rfl, ho0, hb⟩; refine ⟨_, rfl, ?_⟩; have n0_ := Aside0.mk (Kd.R_lower (Kd.R_newB ho0 (bG BK132.out)) (below_size (eG HB.out))); have n1_ := Aside0.mk (blk_below (bG BK131.out) hb); have n2_ := Aside0.mk (blk_below (bG BK132.out) hb); have n3_ := Aside0.mk (blk_below (bG BK133.out) hb); have n4_ := Aside0.mk (blk_below (bG BK139.out) hb); have n5_ := Aside0.mk (below_step (eG HB.out) hb); clear BK131; clear BK132; clear BK133; clear BK139; clear HB; have HO138 := n0_; have BK131 := n1_; have BK132 := n2_; have BK133 := n3_; have BK139 := n4_; have HB := n5_; clear n0_ n1_ n2_ n3_ n4_ n5_; (try clear hb)
        (try clear hb2)
        (try clear hk)
        (try clear hi)
        (try clear ho0)
        obtain ⟨Ao26, co26, eo26⟩ := Kd.R_slice HO138.out; (first | subst eo26 | (injection eo26 with f1_ f2_ f3_; have f4_ := f1_.symm; have f5_ := f3_.symm; clear f1_ f2_ f3_; subst f4_; subst f5_))
        refine hK.out _ _ ⟨(blk_cell BK131.out 0).trans rfl, (blk_cell BK131.out 1).trans rfl⟩ (fun hHeld => ?_); clear hK K; refine norm_ (a' := ?_) ?_ ?_; rotate_left
        ·
         show Act.put _ (some 23) _ = _
         simp only [Act.put, sIA, sC0, sCS, i64_w, i32_w]; rfl
        refine pure_ (i := 5) (N := some 24) (v := ?_) (a' := ?_) #[true, true, true, true, true, true, true, false] rfl rfl (any_of HT_.out (by kernel_rfl)) (fun _ _ _ h => h) (Or.inl ⟨by rfl, ?_⟩) ?_ ?_; rotate_left
        · intro w'; go_simp; with_reducible rfl
        rotate_left
        · simp only [Act.put, sIA, sC0, sCS, i64_w, i32_w]; rfl
        exact norm_ (by simp only [putAll, Act.put, sIA, sC0, sCS]) (hCont (.slice Ao26 t136.length co26, gb139) _ ⟨hHeld, (by (with_reducible repeat (first | apply Kd.R_alloc | apply Kd.R_drewN | apply Kd.R_drew)); exact Kd.R_mono HO138.out (fun _ hk => hk.2)), (bG BK131.out), (bG BK132.out), (bG BK133.out), (bG BK139.out), GW139.out, GE139.out, NB131_139.out, NB139_131.out, NB132_139.out, NB139_132.out, NB133_139.out, NB139_133.out, (eG HB.out)⟩)
      rintro ⟨v137, gb139⟩ w27 ⟨hS_, h0_, h1_, h2_, h3_, h4_, h5_, h6_, h7_, h8_, h9_, h10_, h11_, h12_, h13_⟩; have n0_ : Aside0 (Kd.R k26 26 w27 w.heap.size (fun k_ => k_ ≠ gb132) v137 t136) := ⟨h0_⟩; have n1_ : Aside0 (w27.heap[gb131]? = some (.cells #[.int .i64 a0_0, .slice A0_1 l0_1.length c0_1] 24 (0, 0))) := ⟨h1_⟩; have n2_ : Aside0 (w27.heap[gb132]? = some (.cells #[.int .i64 a1_0, .int .i64 a1_1, .int .i64 a1_2] 26 (0, 0))) := ⟨h2_⟩; have n3_ : Aside0 (w27.heap[gb133]? = some (.cells #[.int .i64 0, .slice none 0 0] 24 (0, 0))) := ⟨h3_⟩; have n4_ : Aside0 (w27.heap[gb139]? = some (.cells #[.int .i64 0, .slice none 0 0] 24 (0, 0))) := ⟨h4_⟩; have n5_ : Aside0 (w.heap.size ≤ gb139) := ⟨h5_⟩; have n6_ : Aside0 (w.heap.size ≤ gb139) := ⟨h6_⟩; have n7_ : Aside0 (gb131 ≠ gb139) := ⟨h7_⟩; have n8_ : Aside0 (gb139 ≠ gb131) := ⟨h8_⟩; have n9_ : Aside0 (gb132 ≠ gb139) := ⟨h9_⟩; have n10_ : Aside0 (gb139 ≠ gb132) := ⟨h10_⟩; have n11_ : Aside0 (gb133 ≠ gb139) := ⟨h11_⟩; have n12_ : Aside0 (gb139 ≠ gb133) := ⟨h12_⟩; have n13_ : Aside0 (Below w.heap.size w w27) := ⟨h13_⟩; clear BK131; clear BK132; clear BK133; clear HB; clear h0_ h1_ h2_ h3_ h4_ h5_ h6_ h7_ h8_ h9_ h10_ h11_ h12_ h13_; have HO138 := n0_; have BK131 := n1_; have BK132 := n2_; have BK133 := n3_; have BK139 := n4_; have GW139 := n5_; have GE139 := n6_; have ig139_ := geI GE139
      have NB131_139 := n7_; have NB139_131 := n8_; have NB132_139 := n9_; have NB139_132 := n10_; have NB133_139 := n11_; have NB139_133 := n12_; have HB := n13_; clear n0_ n1_ n2_ n3_ n4_ n5_ n6_ n7_ n8_ n9_ n10_ n11_ n12_ n13_; have hHeld : w27.cell? ⟨gb131, 0, none⟩ = some (.int .i64 a0_0) ∧ w27.cell? ⟨gb131, 1, none⟩ = some (.slice A0_1 l0_1.length c0_1) := hS_; obtain ⟨Ao28, co28, eo28⟩ := Kd.R_slice HO138.out; (first | subst eo28 | (injection eo28 with f1_ f2_ f3_; have f4_ := f1_.symm; have f5_ := f3_.symm; clear f1_ f2_ f3_; subst f4_; subst f5_))
      refine norm_ (a' := ?_) ?_ ?_; rotate_left
      · simp only [putAll, Act.put, sIA, sC0, sCS]; rfl
      refine one_ (i := 7) (N := none) #[true, true, true, true, true, true, true, true] rfl rfl (one_of HT_.out (by kernel_rfl)) (by decide) (fun K hK => ?_); have hs29 : w27.cell? ⟨gb139, 0, none⟩ = some (.int .i64 0) := (blk_cell BK139.out 0).trans rfl; have hfs29 := blk_frozen BK139.out 0; have hns29_0 := NB131_139.out; have hns29_1 := NB132_139.out; have hns29_2 := NB133_139.out; have hms29_0 := NB139_131.out; have hms29_1 := NB139_132.out; have hms29_2 := NB139_133.out; have hs30 : w27.cell? ⟨gb139, 1, none⟩ = some (.slice none 0 0) := (blk_cell BK139.out 1).trans rfl; have hfs30 := blk_frozen BK139.out 1; have hns30_0 := NB131_139.out; have hns30_1 := NB132_139.out; have hns30_2 := NB133_139.out; have hms30_0 := NB139_131.out; have hms30_1 := NB139_132.out; have hms30_2 := NB139_133.out; refine skip_ (w1 := ?_) (by rfl) rfl ?_ ?_; rotate_left
      · go_simp; rfl
      refine hK.out _ _ ⟨((cell_far (p := ⟨gb139, _, none⟩) NB131_139.out _).trans (((cell_far (p := ⟨gb139, _, none⟩) NB131_139.out _).trans (hHeld.1)))), ((cell_far (p := ⟨gb139, _, none⟩) NB131_139.out _).trans (((cell_far (p := ⟨gb139, _, none⟩) NB131_139.out _).trans (hHeld.2))))⟩ (fun hHeld => ?_); clear hK K; refine done_ (done_of HT_.out (by kernel_rfl)) ?_; have hnb31 := NB139_131.out; have hnc31 := NB131_139.out; have hnb32 := NB139_132.out; have hnc32 := NB132_139.out; have hnb33 := NB139_133.out; have hnc33 := NB133_139.out; have hcz34_0 : w27.cell? ⟨gb139, 0, none⟩ = some (.int .i64 0) := (blk_cell BK139.out 0).trans rfl; have hcz34_1 : w27.cell? ⟨gb139, 1, none⟩ = some (.slice none 0 0) := (blk_cell BK139.out 1).trans rfl; have hfz34_0 := blk_frozen BK139.out 0; have hfz34_1 := blk_frozen BK139.out 1; have hcz35_0 : w27.cell? ⟨gb132, 0, none⟩ = some (.int .i64 a1_0) := (blk_cell BK132.out 0).trans rfl; have hcz35_1 : w27.cell? ⟨gb132, 1, none⟩ = some (.int .i64 a1_1) := (blk_cell BK132.out 1).trans rfl; have hcz35_2 : w27.cell? ⟨gb132, 2, none⟩ = some (.int .i64 a1_2) := (blk_cell BK132.out 2).trans rfl; have hfz35_0 := blk_frozen BK132.out 0; have hfz35_1 := blk_frozen BK132.out 1; have hfz35_2 := blk_frozen BK132.out 2; try go_wp2_with (first | ((with_reducible refine gate_callee (f := 42) rfl ?_); refine goesL_ (some 29) rfl rfl Tryz.func42 (by kernel_rfl) rfl #[.slice Ao28 t136.length co28, .agg #[.int .i64 a1_0, .int .i64 a1_1, .int .i64 a1_2], .func (.func 37) #[] #[]] rfl (by (try simp only [List.map_toArray, List.map_cons, List.map_nil]); first | done | rfl | (simp only [List.length_drop, List.length_take]; rfl)) ?_; (with_reducible refine (api_Rate_42_at_37.calls k _ _ t136 a1_0 a1_1 a1_2 t140 true _ ?side1 ?side2 A8.out).mono ?_); (case side1 => refine (Kd.R_reads' (e := 26) (base := w.heap.size) (ok := fun k_ => k_ ≠ gb132) (n := t136.length) (c := co28) ?_).2.2; exact (by (with_reducible repeat (first | apply Kd.R_alloc | apply Kd.R_drewN | apply Kd.R_drew)); exact (Kd.R_mono (Kd.R_far (p := ⟨gb139, 1, none⟩) (Kd.R_far (p := ⟨gb139, 0, none⟩) (Kd.R_types HO138.out BK139.out (by decide)) (fun _ hk => hk.2) (.int .i64 a0_0)) (fun _ hk => hk.2) (.slice Ao28 t136.length co28)) (fun _ h_ => h_.1)))); (case side2 => exact (Kd.R_reads' HO138.out).2.1); rintro e w36 ⟨rfl, hb⟩; refine ⟨_, rfl, ?_⟩; have n0_ := Aside0.mk (Kd.R_below (by (with_reducible repeat (first | apply Kd.R_alloc | apply Kd.R_drewN | apply Kd.R_drew)); exact (Kd.R_mono (Kd.R_far (p := ⟨gb139, 1, none⟩) (Kd.R_far (p := ⟨gb139, 0, none⟩) (Kd.R_types HO138.out BK139.out (by decide)) (fun _ hk => hk.2) (.int .i64 a0_0)) (fun _ hk => hk.2) (.slice Ao28 t136.length co28)) (fun _ h_ => h_.1))) hb); have n1_ := Aside0.mk (blk_below (g := gb131) (o := .cells #[.int .i64 a0_0, .slice A0_1 l0_1.length c0_1] 24 (0, 0)) (by (with_reducible repeat first | apply bN | apply bD | apply bA); refine blk_far ?_ NB131_139.out _; (with_reducible repeat first | apply bN | apply bD | apply bA); refine blk_far ?_ NB131_139.out _; (with_reducible repeat first | apply bN | apply bD | apply bA); exact BK131.out) hb); have n2_ := Aside0.mk (blk_below (g := gb132) (o := .cells #[.int .i64 a1_0, .int .i64 a1_1, .int .i64 a1_2] 26 (0, 0)) (by (with_reducible repeat first | apply bN | apply bD | apply bA); refine blk_far ?_ NB132_139.out _; (with_reducible repeat first | apply bN | apply bD | apply bA); refine blk_far ?_ NB132_139.out _; (with_reducible repeat first | apply bN | apply bD | apply bA); exact BK132.out) hb); have n3_ := Aside0.mk (blk_below (g := gb133) (o := .cells #[.int .i64 0, .slice none 0 0] 24 (0, 0)) (by (with_reducible repeat first | apply bN | apply bD | apply bA); refine blk_far ?_ NB133_139.out _; (with_reducible repeat first | apply bN | apply bD | apply bA); refine blk_far ?_ NB133_139.out _; (with_reducible repeat first | apply bN | apply bD | apply bA); exact BK133.out) hb); have n4_ := Aside0.mk (blk_below (g := gb139) (o := .cells #[.int .i64 a0_0, .slice Ao28 t136.length co28] 24 (0, 0)) (by (with_reducible repeat first | apply bN | apply bD | apply bA); refine blk_put (cs := #[.int .i64 a0_0, .slice none 0 0]) ?_ 1 _ rfl; (with_reducible repeat first | apply bN | apply bD | apply bA); refine blk_put (cs := #[.int .i64 0, .slice none 0 0]) ?_ 0 _ rfl; (with_reducible repeat first | apply bN | apply bD | apply bA); exact BK139.out) hb); have n5_ := Aside0.mk (below_step (eG HB.out) hb); clear HO138; clear BK131; clear BK132; clear BK133; clear BK139; clear HB; have HO138 := n0_; have BK131 := n1_; have BK132 := n2_; have BK133 := n3_; have BK139 := n4_; have HB := n5_; clear n0_ n1_ n2_ n3_ n4_ n5_; (try clear hb); (try clear hb2); (try clear hk); (try clear hi); have hcz37_0 : w36.cell? ⟨gb139, 0, none⟩ = some (.int .i64 a0_0) := (blk_cell BK139.out 0).trans rfl; have hcz37_1 : w36.cell? ⟨gb139, 1, none⟩ = some (.slice Ao28 t136.length co28) := (blk_cell BK139.out 1).trans rfl; have hfz37_0 := blk_frozen BK139.out 0; have hfz37_1 := blk_frozen BK139.out 1; have hcz38_0 : w36.cell? ⟨gb132, 0, none⟩ = some (.int .i64 a1_0) := (blk_cell BK132.out 0).trans rfl; have hcz38_1 : w36.cell? ⟨gb132, 1, none⟩ = some (.int .i64 a1_1) := (blk_cell BK132.out 1).trans rfl; have hcz38_2 : w36.cell? ⟨gb132, 2, none⟩ = some (.int .i64 a1_2) := (blk_cell BK132.out 2).trans rfl; have hfz38_0 := blk_frozen BK132.out 0; have hfz38_1 := blk_frozen BK132.out 1; have hfz38_2 := blk_frozen BK132.out 2; have p12 : 0 ≤ (t140 : Int) := of_decide_eq_true (by first | (with_reducible assumption) | assumption); have q12 : (t140 : Int) < ((t136.length : Int) : Int) := of_decide_eq_true (by first | (with_reducible assumption) | assumption); obtain ⟨go12, co12, eo12, gb12, gl12, cl12, HG12⟩ := Kd.R_form HO138.out (by omega); (first | cases eo12 | (injection eo12 with ea_ en_ ec_; (first | subst ea_ | (injection ea_ with ea_; subst ea_)); subst ec_; clear en_)); have GB12 := Aside0.mk gb12; have GG12 := Aside0.mk HG12; clear gb12 gl12 HG12; obtain ⟨ce12, hcl12, hM12, hcc12, hfr12⟩ := Kd.R_elem HO138.out z26 (t140 : Int) p12 q12; obtain rfl := k26_openM hM12; have hx12_0 : w36.cell? ⟨go12, (t140 : Int).toNat * 3, none⟩ = some (.int .i64 ((rd_T26 t136 t140).f0)) := hcc12 0 _ rfl; have hx12_1 : w36.cell? ⟨go12, (t140 : Int).toNat * 3 + 1, none⟩ = some (.int .i64 ((rd_T26 t136 t140).f1)) := hcc12 1 _ rfl; have hx12_2 : w36.cell? ⟨go12, (t140 : Int).toNat * 3 + 2, none⟩ = some (.int .i64 ((rd_T26 t136 t140).f2)) := hcc12 2 _ rfl; have hf12_0 : w36.frozen? ⟨go12, (t140 : Int).toNat * 3, none⟩ = false := hfr12 0; have hf12_1 : w36.frozen? ⟨go12, (t140 : Int).toNat * 3 + 1, none⟩ = false := hfr12 1; have hf12_2 : w36.frozen? ⟨go12, (t140 : Int).toNat * 3 + 2, none⟩ = false := hfr12 2; clear hcl12 hcc12 hfr12 hM12; replace p12 := eq_true p12; replace q12 := eq_true q12; have HX39 := Aside0.mk (show Kd.R k26 26 w36 w.heap.size (fun k_ => k_ ≠ gb132) (.slice (some ⟨go12, 0, none⟩) t136.length co28) t136 from (rG HO138.out)); obtain ⟨ce39, hcl39, hM39, hcc39, hfr39⟩ := Kd.R_elem HX39.out z26 (t140 : Int) (of_decide_eq_true (by first | (with_reducible assumption) | assumption)) (by have h_ : (t140 : Int) < ((t136.length : Int) : Int) := of_decide_eq_true (by first | (with_reducible assumption) | assumption); first | exact h_ | (have e_ := (Kd.R_reads' HO138.out).1; omega) | simpa using h_); obtain rfl := k26_openM hM39; have HP39 := Kd.R_seg HX39.out (t140 : Int) (of_decide_eq_true (by first | (with_reducible assumption) | assumption)) (by have h_ : (t140 : Int) < ((t136.length : Int) : Int) := of_decide_eq_true (by first | (with_reducible assumption) | assumption); first | exact h_ | (have e_ := (Kd.R_reads' HO138.out).1; omega) | simpa using h_) (seg := [.int .i64 a1_0, .int .i64 a1_1, .int .i64 a1_2]) (j := 0) hcl39 hcc39 (show 3 ≤ 3 from by decide) (x' := (⟨a1_0, a1_1, a1_2⟩ : S26)) (k26_mkM _ _ _ (⟨a1_0, a1_1, a1_2⟩ : S26) ) (fun _ hk => hk); have hx39_0 := hcc39 0 _ rfl; (try simp only [show (k26).sz = 3 from rfl, Nat.mul_one, Nat.add_zero] at hx39_0); have hf39_0 := hfr39 0; (try simp only [show (k26).sz = 3 from rfl, Nat.mul_one, Nat.add_zero] at hf39_0); have hx39_1 := hcc39 1 _ rfl; (try simp only [show (k26).sz = 3 from rfl, Nat.mul_one, Nat.add_zero] at hx39_1); have hf39_1 := hfr39 1; (try simp only [show (k26).sz = 3 from rfl, Nat.mul_one, Nat.add_zero] at hf39_1); have hx39_2 := hcc39 2 _ rfl; (try simp only [show (k26).sz = 3 from rfl, Nat.mul_one, Nat.add_zero] at hx39_2); have hf39_2 := hfr39 2; (try simp only [show (k26).sz = 3 from rfl, Nat.mul_one, Nat.add_zero] at hf39_2); clear hcl39 hcc39 hfr39 hM39) | ((with_reducible refine gate_store (t := 26) (p := 37) rfl ?_); refine store_event (t := 26) (p := 37) (v := ?vo_w40) (w1 := (((w36.setCell ⟨go12, (t140 : Int).toNat * 3, none⟩ (.int .i64 a1_0)).setCell ⟨go12, (t140 : Int).toNat * 3 + 1, none⟩ (.int .i64 a1_1)).setCell ⟨go12, (t140 : Int).toNat * 3 + 2, none⟩ (.int .i64 a1_2))) ?hg ?ho ?hn ?hr ?_; (case ho => rfl); (case hg => rfl); (case hn => rfl); (case hr => first | (go_simp; done) | (go_simp; rfl)); intro w40 hw; have hg : w36.grownBy w40 (some go12) := (by rw [hw]; exact HP39.2); have hp_ : Kd.R k26 26 w40 w.heap.size (fun k_ => k_ ≠ gb132) (.slice (some ⟨go12, 0, none⟩) t136.length co28) y142 := (by rw [hw, Ny142.out]; exact HP39.1); clear HP39; have n0_ := Aside0.mk (blk_grown (bG BK131.out) hg (Kd.R_ne HO138.out BK131.out (by decide))); have n1_ := Aside0.mk (blk_grown (bG BK132.out) hg (Kd.R_away HO138.out (fun _ hk => hk))); have n2_ := Aside0.mk (blk_grown (bG BK133.out) hg (Kd.R_ne HO138.out BK133.out (by decide))); have n3_ := Aside0.mk (hp_); have n4_ := Aside0.mk (blk_grown (bG BK139.out) hg (Kd.R_ne HO138.out BK139.out (by decide))); have n5_ := Aside0.mk ((by rw [hw]; exact below_set (below_set (below_set (HB.out) GB12.out) GB12.out) GB12.out : Below w.heap.size w w40)); clear BK131; clear BK132; clear BK133; clear HO138; clear BK139; clear HB; have BK131 := n0_; have BK132 := n1_; have BK133 := n2_; have HO138 := n3_; have BK139 := n4_; have HB := n5_; clear n0_ n1_ n2_ n3_ n4_ n5_; clear hg hw hp_; have hcz41_0 : w40.cell? ⟨gb139, 0, none⟩ = some (.int .i64 a0_0) := (blk_cell BK139.out 0).trans rfl; have hcz41_1 : w40.cell? ⟨gb139, 1, none⟩ = some (.slice (some ⟨go12, 0, none⟩) t136.length co28) := (blk_cell BK139.out 1).trans rfl; have hfz41_0 := blk_frozen BK139.out 0; have hfz41_1 := blk_frozen BK139.out 1; have hcz42_0 : w40.cell? ⟨gb133, 0, none⟩ = some (.int .i64 0) := (blk_cell BK133.out 0).trans rfl; have hcz42_1 : w40.cell? ⟨gb133, 1, none⟩ = some (.slice none 0 0) := (blk_cell BK133.out 1).trans rfl; have hfz42_0 := blk_frozen BK133.out 0; have hfz42_1 := blk_frozen BK133.out 1))
      refine bodyPost_ret (results_ct rfl _ _ gb133 24 #[.int .i64 a0_0, .slice (some ⟨go12, 0, none⟩) t136.length co28] (0, 0) _ rfl (by (with_reducible repeat first | apply bN | apply bD | apply bA); refine blk_put (cs := #[.int .i64 a0_0, .slice none 0 0]) ?_ 1 _ rfl; (with_reducible repeat first | apply bN | apply bD | apply bA); refine blk_put (cs := #[.int .i64 0, .slice none 0 0]) ?_ 0 _ rfl; (with_reducible repeat first | apply bN | apply bD | apply bA); exact BK133.out) Tryz.underlying24 rfl (by kernel_rfl)) rfl ?_; exact ⟨_, by first | rfl | (simp [errW_none, errW_some] <;> rfl) | (simp [*, errW_none, errW_some] <;> rfl), by (with_reducible repeat (first | apply Kd.R_alloc | apply Kd.R_drewN | apply Kd.R_drew)); exact Kd.R_mono (Kd.R_far (p := ⟨gb133, 1, none⟩) (Kd.R_far (p := ⟨gb133, 0, none⟩) (Kd.R_types HO138.out BK133.out (by decide)) (fun _ hk => hk.2) (.int .i64 a0_0)) (fun _ hk => hk.2) (.slice (some ⟨go12, 0, none⟩) t136.length co28)) (fun _ hk => trivial), eG HB.out⟩
     · rw [if_neg c11] at H; exact absurd H (by simp)
    · rw [if_neg c10] at H; exact absurd H (by simp)
   ·
    replace c9 := Bool.eq_false_iff.mpr c9; subst c9; replace H : ((slices_Insert26.f t136 t140 (([(⟨a1_0, a1_1, a1_2⟩ : S26)] : List (S26)))).bind fun t146 => (if (t146.length : Int) > 64 then (some (0, ([] : List (S26)), 8)) else (some (a0_0, t146, 0)))) = some (r1, r2, r3) := by rw [if_neg (show ¬ (false = true) by decide)] at H; exact H
    obtain ⟨y143, hy143⟩ : ∃ y_ : List (S26), y_ = (([(⟨a1_0, a1_1, a1_2⟩ : S26)] : List (S26))) := ⟨_, rfl⟩; replace H : ((slices_Insert26.f t136 t140 y143).bind fun t146 => (if (t146.length : Int) > 64 then (some (0, ([] : List (S26)), 8)) else (some (a0_0, t146, 0)))) = some (r1, r2, r3) := by first | (rw [hy143]; with_reducible exact H) | (have H2_ := (Option.bind_some _ _).symm.trans H; rw [hy143]; with_reducible exact H2_) | (have H2_ := (Option.bind_some _ _).symm.trans H; with_reducible exact H2_) | with_reducible exact H | (rw [hy143]; exact H) | exact H
    have Ny143 := Aside0.mk hy143; clear hy143; replace H := Option.bind_eq_some_iff.mp H; obtain ⟨t146, A430, H⟩ := H; replace H : (if (t146.length : Int) > 64 then (some (0, ([] : List (S26)), 8)) else (some (a0_0, t146, 0))) = some (r1, r2, r3) := H; have A43 := Aside0.mk A430; clear A430; by_cases c44 : (t146.length : Int) > 64
    ·
     rw [if_pos c44] at H; have c44b0 : decide (64 < (t146.length : Int)) = true := decide_eq_true c44; have c44b1 : decide (64 < t146.length) = true := decide_eq_true (by omega); clear c44; simp only [Option.some.injEq, Prod.mk.injEq] at H; obtain ⟨rfl, rfl, rfl⟩ := H; go_enter Tryz.func16, Tryz.ntmps16
     try go_wp2_with (first | ((with_reducible refine gate_dst (N := 2) rfl ?_); refine box_event ?hg (N := 2) ?hd (cs := #[.int .i64 a0_0, .slice A0_1 l0_1.length c0_1]) (t := 24) ?hr ?_; (case hd => rfl); (case hg => rfl); (case hr => first | (go_simp; done) | (go_simp; rfl)); intro gb131 hg w45 hbox hb; have n0_ := Aside0.mk (below_step (eG HB.out) hb); have n1_ := Aside0.mk (hbox); have n2_ := Aside0.mk ((by rw [hg]; exact (below_size (eG HB.out)) : w.heap.size ≤ gb131)); have n3_ := Aside0.mk ((by rw [hg]; exact (below_size (eG HB.out)) : w.heap.size ≤ gb131)); clear HB; have HB := n0_; have BK131 := n1_; have GW131 := n2_; have GE131 := n3_; have ig131_ := geI GE131; clear n0_ n1_ n2_ n3_; clear hb hbox hg) | ((with_reducible refine gate_dst (N := 3) rfl ?_); refine box_event ?hg (N := 3) ?hd (cs := #[.int .i64 a1_0, .int .i64 a1_1, .int .i64 a1_2]) (t := 26) ?hr ?_; (case hd => rfl); (case hg => rfl); (case hr => first | (go_simp; done) | (go_simp; rfl)); intro gb132 hg w46 hbox hb; have n0_ := Aside0.mk (blk_below (bG BK131.out) hb); have n1_ := Aside0.mk (below_step (eG HB.out) hb); have n2_ := Aside0.mk (hbox); have n3_ := Aside0.mk ((by rw [hg]; exact (below_size (eG HB.out)) : w.heap.size ≤ gb132)); have n4_ := Aside0.mk ((by rw [hg]; exact (below_size (eG HB.out)) : w.heap.size ≤ gb132)); have n5_ := Aside0.mk ((by rw [hg]; exact Nat.ne_of_lt (blk_lt (bG BK131.out)) : gb131 ≠ gb132)); have n6_ := Aside0.mk ((by rw [hg]; exact Nat.ne_of_gt (blk_lt (bG BK131.out)) : gb132 ≠ gb131)); clear BK131; clear HB; have BK131 := n0_; have HB := n1_; have BK132 := n2_; have GW132 := n3_; have GE132 := n4_; have ig132_ := geI GE132; have NB131_132 := n5_; have NB132_131 := n6_; clear n0_ n1_ n2_ n3_ n4_ n5_ n6_; clear hb hbox hg) | ((with_reducible refine gate_dst (N := 4) rfl ?_); refine box_event ?hg (N := 4) ?hd (cs := #[.int .i64 0, .slice none 0 0]) (t := 24) ?hr ?_; (case hd => rfl); (case hg => rfl); (case hr => first | (go_simp; done) | (go_simp; rfl)); intro gb133 hg w47 hbox hb; have n0_ := Aside0.mk (blk_below (bG BK131.out) hb); have n1_ := Aside0.mk (blk_below (bG BK132.out) hb); have n2_ := Aside0.mk (below_step (eG HB.out) hb); have n3_ := Aside0.mk (hbox); have n4_ := Aside0.mk ((by rw [hg]; exact (below_size (eG HB.out)) : w.heap.size ≤ gb133)); have n5_ := Aside0.mk ((by rw [hg]; exact (below_size (eG HB.out)) : w.heap.size ≤ gb133)); have n6_ := Aside0.mk ((by rw [hg]; exact Nat.ne_of_lt (blk_lt (bG BK131.out)) : gb131 ≠ gb133)); have n7_ := Aside0.mk ((by rw [hg]; exact Nat.ne_of_gt (blk_lt (bG BK131.out)) : gb133 ≠ gb131)); have n8_ := Aside0.mk ((by rw [hg]; exact Nat.ne_of_lt (blk_lt (bG BK132.out)) : gb132 ≠ gb133)); have n9_ := Aside0.mk ((by rw [hg]; exact Nat.ne_of_gt (blk_lt (bG BK132.out)) : gb133 ≠ gb132)); clear BK131; clear BK132; clear HB; have BK131 := n0_; have BK132 := n1_; have HB := n2_; have BK133 := n3_; have GW133 := n4_; have GE133 := n5_; have ig133_ := geI GE133; have NB131_133 := n6_; have NB133_131 := n7_; have NB132_133 := n8_; have NB133_132 := n9_; clear n0_ n1_ n2_ n3_ n4_ n5_ n6_ n7_ n8_ n9_; clear hb hbox hg; have hnb48 := NB131_132.out; have hnc48 := NB132_131.out; have hnb49 := NB131_133.out; have hnc49 := NB133_131.out; have hcz50_0 : w47.cell? ⟨gb131, 0, none⟩ = some (.int .i64 a0_0) := (blk_cell BK131.out 0).trans rfl; have hcz50_1 : w47.cell? ⟨gb131, 1, none⟩ = some (.slice A0_1 l0_1.length c0_1) := (blk_cell BK131.out 1).trans rfl; have hfz50_0 := blk_frozen BK131.out 0; have hfz50_1 := blk_frozen BK131.out 1) | ((with_reducible refine gate_callee (f := 41) rfl ?_); refine goesL_ (some 11) rfl rfl Tryz.func41 (by kernel_rfl) rfl #[.agg #[.int .i64 a0_0, .slice A0_1 l0_1.length c0_1]] rfl (by (try simp only [List.map_toArray, List.map_cons, List.map_nil]); first | done | rfl | (simp only [List.length_drop, List.length_take]; rfl)) ?_; (with_reducible refine (tariff_right.calls k a0_0 _ _ l0_1 true _ ?side1 ?side2 A3.out).mono ?_); (case side1 => repeat (first | exact (Kd.C_below HR0_1.out HB.out) | (with_reducible refine Kd.C_alloc ?_ _) | (with_reducible refine Kd.C_drewN ?_ _) | (with_reducible refine Kd.C_drew ?_))); (case side2 => exact HC0_1.out); rintro e w51 ⟨rfl, hb⟩; refine ⟨_, rfl, ?_⟩; have n0_ := Aside0.mk (blk_below (bG BK131.out) hb); have n1_ := Aside0.mk (blk_below (bG BK132.out) hb); have n2_ := Aside0.mk (blk_below (bG BK133.out) hb); have n3_ := Aside0.mk (below_step (eG HB.out) hb); clear BK131; clear BK132; clear BK133; clear HB; have BK131 := n0_; have BK132 := n1_; have BK133 := n2_; have HB := n3_; clear n0_ n1_ n2_ n3_; (try clear hb); (try clear hb2); (try clear hk); (try clear hi); have hnb52 := NB132_133.out; have hnc52 := NB133_132.out; have hcz53_0 : w51.cell? ⟨gb132, 0, none⟩ = some (.int .i64 a1_0) := (blk_cell BK132.out 0).trans rfl; have hcz53_1 : w51.cell? ⟨gb132, 1, none⟩ = some (.int .i64 a1_1) := (blk_cell BK132.out 1).trans rfl; have hcz53_2 : w51.cell? ⟨gb132, 2, none⟩ = some (.int .i64 a1_2) := (blk_cell BK132.out 2).trans rfl; have hfz53_0 := blk_frozen BK132.out 0; have hfz53_1 := blk_frozen BK132.out 1; have hfz53_2 := blk_frozen BK132.out 2) | ((with_reducible refine gate_callee (f := 36) rfl ?_); refine goesL_ (some 16) rfl rfl Tryz.func36 (by kernel_rfl) rfl #[.agg #[.int .i64 a1_0, .int .i64 a1_1, .int .i64 a1_2]] rfl (by (try simp only [List.map_toArray, List.map_cons, List.map_nil]); first | done | rfl | (simp only [List.length_drop, List.length_take]; rfl)) ?_; (with_reducible refine (tariff_ranged.calls a1_0 a1_1 a1_2 true _ A5.out).mono ?_); rintro e w54 ⟨rfl, hb⟩; refine ⟨_, rfl, ?_⟩; have n0_ := Aside0.mk (blk_below (bG BK131.out) hb); have n1_ := Aside0.mk (blk_below (bG BK132.out) hb); have n2_ := Aside0.mk (blk_below (bG BK133.out) hb); have n3_ := Aside0.mk (below_step (eG HB.out) hb); clear BK131; clear BK132; clear BK133; clear HB; have BK131 := n0_; have BK132 := n1_; have BK133 := n2_; have HB := n3_; clear n0_ n1_ n2_ n3_; (try clear hb); (try clear hb2); (try clear hk); (try clear hi)))
     have n0_ := Aside0.mk (blk_drew BK131.out); have n1_ := Aside0.mk (blk_drew BK132.out); have n2_ := Aside0.mk (blk_drew BK133.out); have n3_ := Aside0.mk (below_drew1 HB.out); clear BK131; clear BK132; clear BK133; clear HB; have BK131 := n0_; have BK132 := n1_; have BK133 := n2_; have HB := n3_; clear n0_ n1_ n2_ n3_; refine start_ (n := 8) (S := fun w' => w'.cell? ⟨gb131, 0, none⟩ = some (.int .i64 a0_0) ∧ w'.cell? ⟨gb131, 1, none⟩ = some (.slice A0_1 l0_1.length c0_1)) (ds := []) #[false, false, false, false, false, false, false, false] (by kernel_rfl) rfl rfl ⟨(blk_cell BK131.out 0).trans rfl, (blk_cell BK131.out 1).trans rfl⟩ (fun hHeld => ?_); refine with_tabW tariff_Insert.tab5 tariff_Insert.bits5 (fun HT_ HW_ => ?_)
     generalize w54.drew = w55 at BK131 BK132 BK133 HB hHeld ⊢; refine pure_ (i := 0) (N := some 19) (v := ?_) (a' := ?_) #[true, false, false, false, false, false, false, false] rfl rfl (any_of HT_.out (by kernel_rfl)) (fun _ _ _ h => h) (Or.inl ⟨by rfl, ?_⟩) ?_ ?_; rotate_left
     · intro w'; go_simp; with_reducible rfl
     rotate_left
     · simp only [Act.put, sIA, sC0, sCS, i64_w, i32_w]; rfl
     refine pure_ (i := 2) (N := some 21) (v := ?_) (a' := ?_) #[true, false, true, false, false, false, false, false] rfl rfl (any_of HT_.out (by kernel_rfl)) (fun _ _ _ h => h) (Or.inl ⟨by rfl, ?_⟩) ?_ ?_; rotate_left
     · intro w'; go_simp; with_reducible rfl
     rotate_left
     · simp only [Act.put, sIA, sC0, sCS, i64_w, i32_w]; rfl
     refine take_ (i := 1) (N := some 20) (v := ?_) (a' := ?_) #[true, true, true, false, false, false, false, false] rfl rfl (take_ofW HT_.out HW_.out (by kernel_rfl)) (fun _ _ _ h => h) (Or.inl ⟨by rfl, ?_⟩) hHeld ?_ ?_; rotate_left
     · rintro w' ⟨s0, s1⟩; go_simp; with_reducible rfl
     rotate_left
     · simp only [Act.put, sIA, sC0, sCS, i64_w, i32_w]; rfl
     refine take_ (i := 3) (N := some 22) (v := ?_) (a' := ?_) #[true, true, true, true, false, false, false, false] rfl rfl (take_ofW HT_.out HW_.out (by kernel_rfl)) (fun _ _ _ h => h) (Or.inl ⟨by rfl, ?_⟩) hHeld ?_ ?_; rotate_left
     · rintro w' ⟨s0, s1⟩; go_simp; with_reducible rfl
     rotate_left
     · simp only [Act.put, sIA, sC0, sCS, i64_w, i32_w]; rfl
     refine join_ (σ := Value × Nat) 1 #[true, true, true, true, true, true, true, false] (fun s_ => [(23, s_.1), (6, .pointer (some ⟨s_.2, 0, none⟩)), (24, .agg #[.int .i64 a0_0, s_.1])]) (fun s_ w' => (w'.cell? ⟨gb131, 0, none⟩ = some (.int .i64 a0_0) ∧ w'.cell? ⟨gb131, 1, none⟩ = some (.slice A0_1 l0_1.length c0_1)) ∧ (Kd.R k26 26 w' w.heap.size (fun k_ => k_ ≠ gb132) s_.1 t136) ∧ (w'.heap[gb131]? = some (.cells #[.int .i64 a0_0, .slice A0_1 l0_1.length c0_1] 24 (0, 0))) ∧ (w'.heap[gb132]? = some (.cells #[.int .i64 a1_0, .int .i64 a1_1, .int .i64 a1_2] 26 (0, 0))) ∧ (w'.heap[gb133]? = some (.cells #[.int .i64 0, .slice none 0 0] 24 (0, 0))) ∧ (w'.heap[s_.2]? = some (.cells #[.int .i64 0, .slice none 0 0] 24 (0, 0))) ∧ (w.heap.size ≤ s_.2) ∧ (w.heap.size ≤ s_.2) ∧ (gb131 ≠ s_.2) ∧ (s_.2 ≠ gb131) ∧ (gb132 ≠ s_.2) ∧ (s_.2 ≠ gb132) ∧ (gb133 ≠ s_.2) ∧ (s_.2 ≠ gb133) ∧ (Below w.heap.size w w')) ?_ ?_; rotate_left
     ·
      intro hCont; refine two_ (i := 4) (j := 6) (Ni := some 23) (Nj := some 6) #[true, true, true, true, true, false, false, false] #[true, true, true, true, false, false, true, false] rfl rfl rfl rfl (two_of HT_.out (by kernel_rfl)) (by decide) (by decide) (fun K hK => ?_) (fun K hK => ?_)
      ·
       skip
       refine goes_ Tryz.func38 (by kernel_rfl) rfl #[.slice A0_1 l0_1.length c0_1] (by rfl) rfl rfl (by (try simp only [List.map_toArray, List.map_cons, List.map_nil]); first | done | rfl | (simp only [List.length_drop, List.length_take]; rfl)) ?_; with_reducible refine (slices_Clone26.calls _ _ l0_1 t136 _ ?side1 ?side2 A7.out).mono ?_
       (case side1 => repeat (first | exact (Kd.C_below HR0_1.out HB.out) | (with_reducible refine Kd.C_alloc ?_ _) | (with_reducible refine Kd.C_drewN ?_ _) | (with_reducible refine Kd.C_drew ?_)))
       (case side2 => exact HC0_1.out)
       rintro e w56 ⟨v137, rfl, ho0, hb⟩; refine ⟨_, rfl, ?_⟩; have n0_ := Aside0.mk (Kd.R_lower (Kd.R_newB ho0 (bG BK132.out)) (below_size (eG HB.out))); have n1_ := Aside0.mk (blk_below (bG BK131.out) hb); have n2_ := Aside0.mk (blk_below (bG BK132.out) hb); have n3_ := Aside0.mk (blk_below (bG BK133.out) hb); have n4_ := Aside0.mk (below_step (eG HB.out) hb); clear BK131; clear BK132; clear BK133; clear HB; have HO138 := n0_; have BK131 := n1_; have BK132 := n2_; have BK133 := n3_; have HB := n4_; clear n0_ n1_ n2_ n3_ n4_; (try clear hb)
       (try clear hb2)
       (try clear hk)
       (try clear hi)
       (try clear ho0)
       obtain ⟨Ao57, co57, eo57⟩ := Kd.R_slice HO138.out; (first | subst eo57 | (injection eo57 with f1_ f2_ f3_; have f4_ := f1_.symm; have f5_ := f3_.symm; clear f1_ f2_ f3_; subst f4_; subst f5_))
       refine hK.out _ _ ⟨(blk_cell BK131.out 0).trans rfl, (blk_cell BK131.out 1).trans rfl⟩ (fun hHeld => ?_); clear hK K; refine norm_ (a' := ?_) ?_ ?_; rotate_left
       ·
        show Act.put _ (some 23) _ = _
        simp only [Act.put, sIA, sC0, sCS, i64_w, i32_w]; rfl
       refine pure_ (i := 5) (N := some 24) (v := ?_) (a' := ?_) #[true, true, true, true, true, true, false, false] rfl rfl (any_of HT_.out (by kernel_rfl)) (fun _ _ _ h => h) (Or.inl ⟨by rfl, ?_⟩) ?_ ?_; rotate_left
       · intro w'; go_simp; with_reducible rfl
       rotate_left
       · simp only [Act.put, sIA, sC0, sCS, i64_w, i32_w]; rfl
       refine one_ (i := 6) (N := some 6) #[true, true, true, true, true, true, true, false] rfl rfl (one_of HT_.out (by kernel_rfl)) (by decide) (fun K hK => ?_); refine box_step ?hg (N := 6) ?hd (cs := #[.int .i64 0, .slice none 0 0]) (t := 24) ?hr ?_; (case hd => rfl); (case hg => rfl); (case hr => first | (go_simp; done) | (go_simp; rfl))
       intro gb139 hg w58 hbox hb; have n0_ := Aside0.mk (Kd.R_below (rG HO138.out) hb); have n1_ := Aside0.mk (blk_below (bG BK131.out) hb); have n2_ := Aside0.mk (blk_below (bG BK132.out) hb); have n3_ := Aside0.mk (blk_below (bG BK133.out) hb); have n4_ := Aside0.mk (below_step (eG HB.out) hb); have n5_ := Aside0.mk (hbox); have n6_ := Aside0.mk ((by rw [hg]; exact (below_size (eG HB.out)) : w.heap.size ≤ gb139)); have n7_ := Aside0.mk ((by rw [hg]; exact (below_size (eG HB.out)) : w.heap.size ≤ gb139)); have n8_ := Aside0.mk ((by rw [hg]; exact Nat.ne_of_lt (blk_lt (bG BK131.out)) : gb131 ≠ gb139)); have n9_ := Aside0.mk ((by rw [hg]; exact Nat.ne_of_gt (blk_lt (bG BK131.out)) : gb139 ≠ gb131)); have n10_ := Aside0.mk ((by rw [hg]; exact Nat.ne_of_lt (blk_lt (bG BK132.out)) : gb132 ≠ gb139)); have n11_ := Aside0.mk ((by rw [hg]; exact Nat.ne_of_gt (blk_lt (bG BK132.out)) : gb139 ≠ gb132)); have n12_ := Aside0.mk ((by rw [hg]; exact Nat.ne_of_lt (blk_lt (bG BK133.out)) : gb133 ≠ gb139)); have n13_ := Aside0.mk ((by rw [hg]; exact Nat.ne_of_gt (blk_lt (bG BK133.out)) : gb139 ≠ gb133)); clear HO138; clear BK131; clear BK132; clear BK133; clear HB; have HO138 := n0_; have BK131 := n1_; have BK132 := n2_; have BK133 := n3_; have HB := n4_; have BK139 := n5_; have GW139 := n6_; have GE139 := n7_; have ig139_ := geI GE139
       have NB131_139 := n8_; have NB139_131 := n9_; have NB132_139 := n10_; have NB139_132 := n11_; have NB133_139 := n12_; have NB139_133 := n13_; clear n0_ n1_ n2_ n3_ n4_ n5_ n6_ n7_ n8_ n9_ n10_ n11_ n12_ n13_; clear hb hbox hg; refine hK.out _ _ ⟨(blk_cell BK131.out 0).trans rfl, (blk_cell BK131.out 1).trans rfl⟩ (fun hHeld => ?_); clear hK K; refine norm_ (a' := ?_) ?_ ?_; rotate_left
       ·
        show Act.put _ (some 6) _ = _
        simp only [Act.put, sIA, sC0, sCS, i64_w, i32_w]; rfl
       exact norm_ (by simp only [putAll, Act.put, sIA, sC0, sCS]) (hCont (.slice Ao57 t136.length co57, gb139) _ ⟨hHeld, (by (with_reducible repeat (first | apply Kd.R_alloc | apply Kd.R_drewN | apply Kd.R_drew)); exact Kd.R_mono HO138.out (fun _ hk => hk.2)), (bG BK131.out), (bG BK132.out), (bG BK133.out), (bG BK139.out), GW139.out, GE139.out, NB131_139.out, NB139_131.out, NB132_139.out, NB139_132.out, NB133_139.out, NB139_133.out, (eG HB.out)⟩)
      ·
       skip
       refine box_step ?hg (N := 6) ?hd (cs := #[.int .i64 0, .slice none 0 0]) (t := 24) ?hr ?_; (case hd => rfl); (case hg => rfl); (case hr => first | (go_simp; done) | (go_simp; rfl))
       intro gb139 hg w56 hbox hb; have n0_ := Aside0.mk (blk_below (bG BK131.out) hb); have n1_ := Aside0.mk (blk_below (bG BK132.out) hb); have n2_ := Aside0.mk (blk_below (bG BK133.out) hb); have n3_ := Aside0.mk (below_step (eG HB.out) hb); have n4_ := Aside0.mk (hbox); have n5_ := Aside0.mk ((by rw [hg]; exact (below_size (eG HB.out)) : w.heap.size ≤ gb139)); have n6_ := Aside0.mk ((by rw [hg]; exact (below_size (eG HB.out)) : w.heap.size ≤ gb139)); have n7_ := Aside0.mk ((by rw [hg]; exact Nat.ne_of_lt (blk_lt (bG BK131.out)) : gb131 ≠ gb139)); have n8_ := Aside0.mk ((by rw [hg]; exact Nat.ne_of_gt (blk_lt (bG BK131.out)) : gb139 ≠ gb131)); have n9_ := Aside0.mk ((by rw [hg]; exact Nat.ne_of_lt (blk_lt (bG BK132.out)) : gb132 ≠ gb139)); have n10_ := Aside0.mk ((by rw [hg]; exact Nat.ne_of_gt (blk_lt (bG BK132.out)) : gb139 ≠ gb132)); have n11_ := Aside0.mk ((by rw [hg]; exact Nat.ne_of_lt (blk_lt (bG BK133.out)) : gb133 ≠ gb139)); have n12_ := Aside0.mk ((by rw [hg]; exact Nat.ne_of_gt (blk_lt (bG BK133.out)) : gb139 ≠ gb133)); clear BK131; clear BK132; clear BK133; clear HB; have BK131 := n0_; have BK132 := n1_; have BK133 := n2_; have HB := n3_; have BK139 := n4_; have GW139 := n5_; have GE139 := n6_; have ig139_ := geI GE139
       have NB131_139 := n7_; have NB139_131 := n8_; have NB132_139 := n9_; have NB139_132 := n10_; have NB133_139 := n11_; have NB139_133 := n12_; clear n0_ n1_ n2_ n3_ n4_ n5_ n6_ n7_ n8_ n9_ n10_ n11_ n12_; clear hb hbox hg; refine hK.out _ _ ⟨(blk_cell BK131.out 0).trans rfl, (blk_cell BK131.out 1).trans rfl⟩ (fun hHeld => ?_); clear hK K; refine norm_ (a' := ?_) ?_ ?_; rotate_left
       ·
        show Act.put _ (some 6) _ = _
        simp only [Act.put, sIA, sC0, sCS, i64_w, i32_w]; rfl
       refine one_ (i := 4) (N := some 23) #[true, true, true, true, true, false, true, false] rfl rfl (one_of HT_.out (by kernel_rfl)) (by decide) (fun K hK => ?_); refine goes_ Tryz.func38 (by kernel_rfl) rfl #[.slice A0_1 l0_1.length c0_1] (by rfl) rfl rfl (by (try simp only [List.map_toArray, List.map_cons, List.map_nil]); first | done | rfl | (simp only [List.length_drop, List.length_take]; rfl)) ?_; with_reducible refine (slices_Clone26.calls _ _ l0_1 t136 _ ?side1 ?side2 A7.out).mono ?_
       (case side1 => repeat (first | exact (Kd.C_below HR0_1.out HB.out) | (with_reducible refine Kd.C_alloc ?_ _) | (with_reducible refine Kd.C_drewN ?_ _) | (with_reducible refine Kd.C_drew ?_)))
       (case side2 => exact HC0_1.out)
       rintro e w57 ⟨v137, rfl, ho0, hb⟩; refine ⟨_, rfl, ?_⟩; have n0_ := Aside0.mk (Kd.R_lower (Kd.R_newB ho0 (bG BK132.out)) (below_size (eG HB.out))); have n1_ := Aside0.mk (blk_below (bG BK131.out) hb); have n2_ := Aside0.mk (blk_below (bG BK132.out) hb); have n3_ := Aside0.mk (blk_below (bG BK133.out) hb); have n4_ := Aside0.mk (blk_below (bG BK139.out) hb); have n5_ := Aside0.mk (below_step (eG HB.out) hb); clear BK131; clear BK132; clear BK133; clear BK139; clear HB; have HO138 := n0_; have BK131 := n1_; have BK132 := n2_; have BK133 := n3_; have BK139 := n4_; have HB := n5_; clear n0_ n1_ n2_ n3_ n4_ n5_; (try clear hb)
       (try clear hb2)
       (try clear hk)
       (try clear hi)
       (try clear ho0)
       obtain ⟨Ao58, co58, eo58⟩ := Kd.R_slice HO138.out; (first | subst eo58 | (injection eo58 with f1_ f2_ f3_; have f4_ := f1_.symm; have f5_ := f3_.symm; clear f1_ f2_ f3_; subst f4_; subst f5_))
       refine hK.out _ _ ⟨(blk_cell BK131.out 0).trans rfl, (blk_cell BK131.out 1).trans rfl⟩ (fun hHeld => ?_); clear hK K; refine norm_ (a' := ?_) ?_ ?_; rotate_left
       ·
        show Act.put _ (some 23) _ = _
        simp only [Act.put, sIA, sC0, sCS, i64_w, i32_w]; rfl
       refine pure_ (i := 5) (N := some 24) (v := ?_) (a' := ?_) #[true, true, true, true, true, true, true, false] rfl rfl (any_of HT_.out (by kernel_rfl)) (fun _ _ _ h => h) (Or.inl ⟨by rfl, ?_⟩) ?_ ?_; rotate_left
       · intro w'; go_simp; with_reducible rfl
       rotate_left
       · simp only [Act.put, sIA, sC0, sCS, i64_w, i32_w]; rfl
       exact norm_ (by simp only [putAll, Act.put, sIA, sC0, sCS]) (hCont (.slice Ao58 t136.length co58, gb139) _ ⟨hHeld, (by (with_reducible repeat (first | apply Kd.R_alloc | apply Kd.R_drewN | apply Kd.R_drew)); exact Kd.R_mono HO138.out (fun _ hk => hk.2)), (bG BK131.out), (bG BK132.out), (bG BK133.out), (bG BK139.out), GW139.out, GE139.out, NB131_139.out, NB139_131.out, NB132_139.out, NB139_132.out, NB133_139.out, NB139_133.out, (eG HB.out)⟩)
     rintro ⟨v137, gb139⟩ w59 ⟨hS_, h0_, h1_, h2_, h3_, h4_, h5_, h6_, h7_, h8_, h9_, h10_, h11_, h12_, h13_⟩; have n0_ : Aside0 (Kd.R k26 26 w59 w.heap.size (fun k_ => k_ ≠ gb132) v137 t136) := ⟨h0_⟩; have n1_ : Aside0 (w59.heap[gb131]? = some (.cells #[.int .i64 a0_0, .slice A0_1 l0_1.length c0_1] 24 (0, 0))) := ⟨h1_⟩; have n2_ : Aside0 (w59.heap[gb132]? = some (.cells #[.int .i64 a1_0, .int .i64 a1_1, .int .i64 a1_2] 26 (0, 0))) := ⟨h2_⟩; have n3_ : Aside0 (w59.heap[gb133]? = some (.cells #[.int .i64 0, .slice none 0 0] 24 (0, 0))) := ⟨h3_⟩; have n4_ : Aside0 (w59.heap[gb139]? = some (.cells #[.int .i64 0, .slice none 0 0] 24 (0, 0))) := ⟨h4_⟩; have n5_ : Aside0 (w.heap.size ≤ gb139) := ⟨h5_⟩; have n6_ : Aside0 (w.heap.size ≤ gb139) := ⟨h6_⟩; have n7_ : Aside0 (gb131 ≠ gb139) := ⟨h7_⟩; have n8_ : Aside0 (gb139 ≠ gb131) := ⟨h8_⟩; have n9_ : Aside0 (gb132 ≠ gb139) := ⟨h9_⟩; have n10_ : Aside0 (gb139 ≠ gb132) := ⟨h10_⟩; have n11_ : Aside0 (gb133 ≠ gb139) := ⟨h11_⟩; have n12_ : Aside0 (gb139 ≠ gb133) := ⟨h12_⟩; have n13_ : Aside0 (Below w.heap.size w w59) := ⟨h13_⟩; clear BK131; clear BK132; clear BK133; clear HB; clear h0_ h1_ h2_ h3_ h4_ h5_ h6_ h7_ h8_ h9_ h10_ h11_ h12_ h13_; have HO138 := n0_; have BK131 := n1_; have BK132 := n2_; have BK133 := n3_; have BK139 := n4_; have GW139 := n5_; have GE139 := n6_; have ig139_ := geI GE139
     have NB131_139 := n7_; have NB139_131 := n8_; have NB132_139 := n9_; have NB139_132 := n10_; have NB133_139 := n11_; have NB139_133 := n12_; have HB := n13_; clear n0_ n1_ n2_ n3_ n4_ n5_ n6_ n7_ n8_ n9_ n10_ n11_ n12_ n13_; have hHeld : w59.cell? ⟨gb131, 0, none⟩ = some (.int .i64 a0_0) ∧ w59.cell? ⟨gb131, 1, none⟩ = some (.slice A0_1 l0_1.length c0_1) := hS_; obtain ⟨Ao60, co60, eo60⟩ := Kd.R_slice HO138.out; (first | subst eo60 | (injection eo60 with f1_ f2_ f3_; have f4_ := f1_.symm; have f5_ := f3_.symm; clear f1_ f2_ f3_; subst f4_; subst f5_))
     refine norm_ (a' := ?_) ?_ ?_; rotate_left
     · simp only [putAll, Act.put, sIA, sC0, sCS]; rfl
     refine one_ (i := 7) (N := none) #[true, true, true, true, true, true, true, true] rfl rfl (one_of HT_.out (by kernel_rfl)) (by decide) (fun K hK => ?_); have hs61 : w59.cell? ⟨gb139, 0, none⟩ = some (.int .i64 0) := (blk_cell BK139.out 0).trans rfl; have hfs61 := blk_frozen BK139.out 0; have hns61_0 := NB131_139.out; have hns61_1 := NB132_139.out; have hns61_2 := NB133_139.out; have hms61_0 := NB139_131.out; have hms61_1 := NB139_132.out; have hms61_2 := NB139_133.out; have hs62 : w59.cell? ⟨gb139, 1, none⟩ = some (.slice none 0 0) := (blk_cell BK139.out 1).trans rfl; have hfs62 := blk_frozen BK139.out 1; have hns62_0 := NB131_139.out; have hns62_1 := NB132_139.out; have hns62_2 := NB133_139.out; have hms62_0 := NB139_131.out; have hms62_1 := NB139_132.out; have hms62_2 := NB139_133.out; refine skip_ (w1 := ?_) (by rfl) rfl ?_ ?_; rotate_left
     · go_simp; rfl
     refine hK.out _ _ ⟨((cell_far (p := ⟨gb139, _, none⟩) NB131_139.out _).trans (((cell_far (p := ⟨gb139, _, none⟩) NB131_139.out _).trans (hHeld.1)))), ((cell_far (p := ⟨gb139, _, none⟩) NB131_139.out _).trans (((cell_far (p := ⟨gb139, _, none⟩) NB131_139.out _).trans (hHeld.2))))⟩ (fun hHeld => ?_); clear hK K; refine done_ (done_of HT_.out (by kernel_rfl)) ?_; have hnb63 := NB139_131.out; have hnc63 := NB131_139.out; have hnb64 := NB139_132.out; have hnc64 := NB132_139.out; have hnb65 := NB139_133.out; have hnc65 := NB133_139.out; have hcz66_0 : w59.cell? ⟨gb139, 0, none⟩ = some (.int .i64 0) := (blk_cell BK139.out 0).trans rfl; have hcz66_1 : w59.cell? ⟨gb139, 1, none⟩ = some (.slice none 0 0) := (blk_cell BK139.out 1).trans rfl; have hfz66_0 := blk_frozen BK139.out 0; have hfz66_1 := blk_frozen BK139.out 1; have hcz67_0 : w59.cell? ⟨gb132, 0, none⟩ = some (.int .i64 a1_0) := (blk_cell BK132.out 0).trans rfl; have hcz67_1 : w59.cell? ⟨gb132, 1, none⟩ = some (.int .i64 a1_1) := (blk_cell BK132.out 1).trans rfl; have hcz67_2 : w59.cell? ⟨gb132, 2, none⟩ = some (.int .i64 a1_2) := (blk_cell BK132.out 2).trans rfl; have hfz67_0 := blk_frozen BK132.out 0; have hfz67_1 := blk_frozen BK132.out 1; have hfz67_2 := blk_frozen BK132.out 2; try go_wp2_with (first | ((with_reducible refine gate_callee (f := 42) rfl ?_); refine goesL_ (some 29) rfl rfl Tryz.func42 (by kernel_rfl) rfl #[.slice Ao60 t136.length co60, .agg #[.int .i64 a1_0, .int .i64 a1_1, .int .i64 a1_2], .func (.func 37) #[] #[]] rfl (by (try simp only [List.map_toArray, List.map_cons, List.map_nil]); first | done | rfl | (simp only [List.length_drop, List.length_take]; rfl)) ?_; (with_reducible refine (api_Rate_42_at_37.calls k _ _ t136 a1_0 a1_1 a1_2 t140 false _ ?side1 ?side2 A8.out).mono ?_); (case side1 => refine (Kd.R_reads' (e := 26) (base := w.heap.size) (ok := fun k_ => k_ ≠ gb132) (n := t136.length) (c := co60) ?_).2.2; exact (by (with_reducible repeat (first | apply Kd.R_alloc | apply Kd.R_drewN | apply Kd.R_drew)); exact (Kd.R_mono (Kd.R_far (p := ⟨gb139, 1, none⟩) (Kd.R_far (p := ⟨gb139, 0, none⟩) (Kd.R_types HO138.out BK139.out (by decide)) (fun _ hk => hk.2) (.int .i64 a0_0)) (fun _ hk => hk.2) (.slice Ao60 t136.length co60)) (fun _ h_ => h_.1)))); (case side2 => exact (Kd.R_reads' HO138.out).2.1); rintro e w68 ⟨rfl, hb⟩; refine ⟨_, rfl, ?_⟩; have n0_ := Aside0.mk (Kd.R_below (by (with_reducible repeat (first | apply Kd.R_alloc | apply Kd.R_drewN | apply Kd.R_drew)); exact (Kd.R_mono (Kd.R_far (p := ⟨gb139, 1, none⟩) (Kd.R_far (p := ⟨gb139, 0, none⟩) (Kd.R_types HO138.out BK139.out (by decide)) (fun _ hk => hk.2) (.int .i64 a0_0)) (fun _ hk => hk.2) (.slice Ao60 t136.length co60)) (fun _ h_ => h_.1))) hb); have n1_ := Aside0.mk (blk_below (g := gb131) (o := .cells #[.int .i64 a0_0, .slice A0_1 l0_1.length c0_1] 24 (0, 0)) (by (with_reducible repeat first | apply bN | apply bD | apply bA); refine blk_far ?_ NB131_139.out _; (with_reducible repeat first | apply bN | apply bD | apply bA); refine blk_far ?_ NB131_139.out _; (with_reducible repeat first | apply bN | apply bD | apply bA); exact BK131.out) hb); have n2_ := Aside0.mk (blk_below (g := gb132) (o := .cells #[.int .i64 a1_0, .int .i64 a1_1, .int .i64 a1_2] 26 (0, 0)) (by (with_reducible repeat first | apply bN | apply bD | apply bA); refine blk_far ?_ NB132_139.out _; (with_reducible repeat first | apply bN | apply bD | apply bA); refine blk_far ?_ NB132_139.out _; (with_reducible repeat first | apply bN | apply bD | apply bA); exact BK132.out) hb); have n3_ := Aside0.mk (blk_below (g := gb133) (o := .cells #[.int .i64 0, .slice none 0 0] 24 (0, 0)) (by (with_reducible repeat first | apply bN | apply bD | apply bA); refine blk_far ?_ NB133_139.out _; (with_reducible repeat first | apply bN | apply bD | apply bA); refine blk_far ?_ NB133_139.out _; (with_reducible repeat first | apply bN | apply bD | apply bA); exact BK133.out) hb); have n4_ := Aside0.mk (blk_below (g := gb139) (o := .cells #[.int .i64 a0_0, .slice Ao60 t136.length co60] 24 (0, 0)) (by (with_reducible repeat first | apply bN | apply bD | apply bA); refine blk_put (cs := #[.int .i64 a0_0, .slice none 0 0]) ?_ 1 _ rfl; (with_reducible repeat first | apply bN | apply bD | apply bA); refine blk_put (cs := #[.int .i64 0, .slice none 0 0]) ?_ 0 _ rfl; (with_reducible repeat first | apply bN | apply bD | apply bA); exact BK139.out) hb); have n5_ := Aside0.mk (below_step (eG HB.out) hb); clear HO138; clear BK131; clear BK132; clear BK133; clear BK139; clear HB; have HO138 := n0_; have BK131 := n1_; have BK132 := n2_; have BK133 := n3_; have BK139 := n4_; have HB := n5_; clear n0_ n1_ n2_ n3_ n4_ n5_; (try clear hb); (try clear hb2); (try clear hk); (try clear hi); have hcz69_0 : w68.cell? ⟨gb139, 0, none⟩ = some (.int .i64 a0_0) := (blk_cell BK139.out 0).trans rfl; have hcz69_1 : w68.cell? ⟨gb139, 1, none⟩ = some (.slice Ao60 t136.length co60) := (blk_cell BK139.out 1).trans rfl; have hfz69_0 := blk_frozen BK139.out 0; have hfz69_1 := blk_frozen BK139.out 1; have hcz70_0 : w68.cell? ⟨gb132, 0, none⟩ = some (.int .i64 a1_0) := (blk_cell BK132.out 0).trans rfl; have hcz70_1 : w68.cell? ⟨gb132, 1, none⟩ = some (.int .i64 a1_1) := (blk_cell BK132.out 1).trans rfl; have hcz70_2 : w68.cell? ⟨gb132, 2, none⟩ = some (.int .i64 a1_2) := (blk_cell BK132.out 2).trans rfl; have hfz70_0 := blk_frozen BK132.out 0; have hfz70_1 := blk_frozen BK132.out 1; have hfz70_2 := blk_frozen BK132.out 2) | ((with_reducible refine gate_dst (N := 43) rfl ?_); refine Kd.R_lit k26 _ 26 ?hg (N := 43) ?hd (xs := ([(⟨a1_0, a1_1, a1_2⟩ : S26)] : List (S26))) (inner := [.int .i64 a1_0, .int .i64 a1_1, .int .i64 a1_2]) (ok := fun _ => True) (okp := fun _ => True) ?hr ?hp (fun _ hk => hk) trivial (Below.refl _ _) (Nat.le_refl _) (by simp) ?_; (case hd => rfl); (case hg => rfl); (case hr => first | (go_simp; done) | (go_simp; rfl)); (case hp => exact (Reps.c3 (show Kd.M k26 _ _ _ (⟨a1_0, a1_1, a1_2⟩ : S26) [.int .i64 a1_0, .int .i64 a1_1, .int .i64 a1_2] from (k26_mkM _ _ _ (⟨a1_0, a1_1, a1_2⟩ : S26) )) (Reps.none _ _))); intro v144 w71 ho72 hb hg_ hnew_; clear hg_ hnew_; (first | rw [← Ny143.out] at ho72 | (simp only [Int.reduceToNat] at ho72; rw [← Ny143.out] at ho72)); have n0_ := Aside0.mk (Kd.R_elder' (rG HO138.out) (Kd.R_base ho72) hb); have n1_ := Aside0.mk (Kd.R_lower (Kd.R_newB (Kd.R_new' ho72 (Kd.R_lt (rG HO138.out))) (bG BK132.out)) (below_size (eG HB.out))); have n2_ := Aside0.mk (blk_below (bG BK131.out) hb); have n3_ := Aside0.mk (blk_below (bG BK132.out) hb); have n4_ := Aside0.mk (blk_below (bG BK133.out) hb); have n5_ := Aside0.mk (blk_below (bG BK139.out) hb); have n6_ := Aside0.mk (below_step (eG HB.out) hb); clear HO138; clear BK131; clear BK132; clear BK133; clear BK139; clear HB; have HO138 := n0_; have HO145 := n1_; have BK131 := n2_; have BK132 := n3_; have BK133 := n4_; have BK139 := n5_; have HB := n6_; clear n0_ n1_ n2_ n3_ n4_ n5_ n6_; clear hb ho72; obtain ⟨Ao73, co73, eo73⟩ := Kd.R_slice HO145.out; subst eo73) | ((with_reducible refine gate_callee (f := 43) rfl ?_); refine goesL_ (some 44) rfl rfl Tryz.func43 (by kernel_rfl) rfl #[.slice Ao60 t136.length co60, .int .i64 t140, .slice Ao73 y143.length co73] rfl (by (try simp only [List.map_toArray, List.map_cons, List.map_nil]); first | done | rfl | (simp only [List.length_drop, List.length_take]; rfl)) ?_; (refine (slices_Insert26.own HO138.out HO145.out (fun k hk => by first | exact hk.1.2 | exact hk.2 | exact hk.1.1.2) (below_size HB.out) A43.out).mono ?_); rintro e w74 ⟨v147, rfl, ho0, hgr⟩; refine ⟨_, rfl, ?_⟩; have n0_ := Aside0.mk ho0; have m0_ := Aside0.mk (blk_grown BK131.out hgr (Kd.R_ne HO138.out BK131.out (by decide))); have m1_ := Aside0.mk (blk_grown BK132.out hgr (fun e => by have h_ := HO138.out.1 _ e.symm; first | exact h_ rfl | exact h_.1 rfl | exact h_.1.1 rfl)); have m2_ := Aside0.mk (blk_grown BK133.out hgr (Kd.R_ne HO138.out BK133.out (by decide))); have m3_ := Aside0.mk (blk_grown BK139.out hgr (Kd.R_ne HO138.out BK139.out (by decide))); have n1_ := Aside0.mk (HB.out.grown hgr (below_size HB.out) (fun k e => own_base (R26_own HO138.out) k e)); clear HO138; clear HO145; clear BK131; clear BK132; clear BK133; clear BK139; clear HB; have HO148 := n0_; have BK131 := m0_; have BK132 := m1_; have BK133 := m2_; have BK139 := m3_; have HB := n1_; clear n0_ n1_; (try clear ho0); clear hgr; obtain ⟨Ao75, co75, eo75⟩ := Kd.R_slice HO148.out; subst eo75; have hcz76_0 : w74.cell? ⟨gb139, 0, none⟩ = some (.int .i64 a0_0) := (blk_cell BK139.out 0).trans rfl; have hcz76_1 : w74.cell? ⟨gb139, 1, none⟩ = some (.slice Ao60 t136.length co60) := (blk_cell BK139.out 1).trans rfl; have hfz76_0 := blk_frozen BK139.out 0; have hfz76_1 := blk_frozen BK139.out 1; have hcz77_0 : w74.cell? ⟨gb133, 0, none⟩ = some (.int .i64 0) := (blk_cell BK133.out 0).trans rfl; have hcz77_1 : w74.cell? ⟨gb133, 1, none⟩ = some (.slice none 0 0) := (blk_cell BK133.out 1).trans rfl; have hfz77_0 := blk_frozen BK133.out 0; have hfz77_1 := blk_frozen BK133.out 1))
     refine bodyPost_ret (results_ct rfl _ _ gb133 24 #[.int .i64 0, .slice none 0 0] (0, 0) _ rfl (by (with_reducible repeat first | apply bN | apply bD | apply bA); refine blk_put (cs := #[.int .i64 0, .slice none 0 0]) ?_ 1 _ rfl; (with_reducible repeat first | apply bN | apply bD | apply bA); refine blk_put (cs := #[.int .i64 0, .slice none 0 0]) ?_ 0 _ rfl; (with_reducible repeat first | apply bN | apply bD | apply bA); refine blk_far ?_ NB133_139.out _; (with_reducible repeat first | apply bN | apply bD | apply bA); exact BK133.out) Tryz.underlying24 rfl (by kernel_rfl)) rfl ?_; exact ⟨_, by first | rfl | (simp [errW_none, errW_some] <;> rfl) | (simp [*, errW_none, errW_some] <;> rfl), by first | exact Kd.R_nil _ _ _ _ _ | exact Kd.N_nil _ _ _ _ _ | exact Kd.V_nil _ _ _ _ _ | exact Kd.Q_nil _ _ _ _ _ | exact Kd.S_nil _ _ _ _ _, eG HB.out⟩
    ·
     rw [if_neg c44] at H; have c44b0 : decide (64 < (t146.length : Int)) = false := decide_eq_false c44; have c44b1 : decide (64 < t146.length) = false := decide_eq_false (by omega); clear c44; simp only [Option.some.injEq, Prod.mk.injEq] at H; obtain ⟨rfl, rfl, rfl⟩ := H; go_enter Tryz.func16, Tryz.ntmps16
     try go_wp2_with (first | ((with_reducible refine gate_dst (N := 2) rfl ?_); refine box_event ?hg (N := 2) ?hd (cs := #[.int .i64 a0_0, .slice A0_1 l0_1.length c0_1]) (t := 24) ?hr ?_; (case hd => rfl); (case hg => rfl); (case hr => first | (go_simp; done) | (go_simp; rfl)); intro gb131 hg w78 hbox hb; have n0_ := Aside0.mk (below_step (eG HB.out) hb); have n1_ := Aside0.mk (hbox); have n2_ := Aside0.mk ((by rw [hg]; exact (below_size (eG HB.out)) : w.heap.size ≤ gb131)); have n3_ := Aside0.mk ((by rw [hg]; exact (below_size (eG HB.out)) : w.heap.size ≤ gb131)); clear HB; have HB := n0_; have BK131 := n1_; have GW131 := n2_; have GE131 := n3_; have ig131_ := geI GE131; clear n0_ n1_ n2_ n3_; clear hb hbox hg) | ((with_reducible refine gate_dst (N := 3) rfl ?_); refine box_event ?hg (N := 3) ?hd (cs := #[.int .i64 a1_0, .int .i64 a1_1, .int .i64 a1_2]) (t := 26) ?hr ?_; (case hd => rfl); (case hg => rfl); (case hr => first | (go_simp; done) | (go_simp; rfl)); intro gb132 hg w79 hbox hb; have n0_ := Aside0.mk (blk_below (bG BK131.out) hb); have n1_ := Aside0.mk (below_step (eG HB.out) hb); have n2_ := Aside0.mk (hbox); have n3_ := Aside0.mk ((by rw [hg]; exact (below_size (eG HB.out)) : w.heap.size ≤ gb132)); have n4_ := Aside0.mk ((by rw [hg]; exact (below_size (eG HB.out)) : w.heap.size ≤ gb132)); have n5_ := Aside0.mk ((by rw [hg]; exact Nat.ne_of_lt (blk_lt (bG BK131.out)) : gb131 ≠ gb132)); have n6_ := Aside0.mk ((by rw [hg]; exact Nat.ne_of_gt (blk_lt (bG BK131.out)) : gb132 ≠ gb131)); clear BK131; clear HB; have BK131 := n0_; have HB := n1_; have BK132 := n2_; have GW132 := n3_; have GE132 := n4_; have ig132_ := geI GE132; have NB131_132 := n5_; have NB132_131 := n6_; clear n0_ n1_ n2_ n3_ n4_ n5_ n6_; clear hb hbox hg) | ((with_reducible refine gate_dst (N := 4) rfl ?_); refine box_event ?hg (N := 4) ?hd (cs := #[.int .i64 0, .slice none 0 0]) (t := 24) ?hr ?_; (case hd => rfl); (case hg => rfl); (case hr => first | (go_simp; done) | (go_simp; rfl)); intro gb133 hg w80 hbox hb; have n0_ := Aside0.mk (blk_below (bG BK131.out) hb); have n1_ := Aside0.mk (blk_below (bG BK132.out) hb); have n2_ := Aside0.mk (below_step (eG HB.out) hb); have n3_ := Aside0.mk (hbox); have n4_ := Aside0.mk ((by rw [hg]; exact (below_size (eG HB.out)) : w.heap.size ≤ gb133)); have n5_ := Aside0.mk ((by rw [hg]; exact (below_size (eG HB.out)) : w.heap.size ≤ gb133)); have n6_ := Aside0.mk ((by rw [hg]; exact Nat.ne_of_lt (blk_lt (bG BK131.out)) : gb131 ≠ gb133)); have n7_ := Aside0.mk ((by rw [hg]; exact Nat.ne_of_gt (blk_lt (bG BK131.out)) : gb133 ≠ gb131)); have n8_ := Aside0.mk ((by rw [hg]; exact Nat.ne_of_lt (blk_lt (bG BK132.out)) : gb132 ≠ gb133)); have n9_ := Aside0.mk ((by rw [hg]; exact Nat.ne_of_gt (blk_lt (bG BK132.out)) : gb133 ≠ gb132)); clear BK131; clear BK132; clear HB; have BK131 := n0_; have BK132 := n1_; have HB := n2_; have BK133 := n3_; have GW133 := n4_; have GE133 := n5_; have ig133_ := geI GE133; have NB131_133 := n6_; have NB133_131 := n7_; have NB132_133 := n8_; have NB133_132 := n9_; clear n0_ n1_ n2_ n3_ n4_ n5_ n6_ n7_ n8_ n9_; clear hb hbox hg; have hnb81 := NB131_132.out; have hnc81 := NB132_131.out; have hnb82 := NB131_133.out; have hnc82 := NB133_131.out; have hcz83_0 : w80.cell? ⟨gb131, 0, none⟩ = some (.int .i64 a0_0) := (blk_cell BK131.out 0).trans rfl; have hcz83_1 : w80.cell? ⟨gb131, 1, none⟩ = some (.slice A0_1 l0_1.length c0_1) := (blk_cell BK131.out 1).trans rfl; have hfz83_0 := blk_frozen BK131.out 0; have hfz83_1 := blk_frozen BK131.out 1) | ((with_reducible refine gate_callee (f := 41) rfl ?_); refine goesL_ (some 11) rfl rfl Tryz.func41 (by kernel_rfl) rfl #[.agg #[.int .i64 a0_0, .slice A0_1 l0_1.length c0_1]] rfl (by (try simp only [List.map_toArray, List.map_cons, List.map_nil]); first | done | rfl | (simp only [List.length_drop, List.length_take]; rfl)) ?_; (with_reducible refine (tariff_right.calls k a0_0 _ _ l0_1 true _ ?side1 ?side2 A3.out).mono ?_); (case side1 => repeat (first | exact (Kd.C_below HR0_1.out HB.out) | (with_reducible refine Kd.C_alloc ?_ _) | (with_reducible refine Kd.C_drewN ?_ _) | (with_reducible refine Kd.C_drew ?_))); (case side2 => exact HC0_1.out); rintro e w84 ⟨rfl, hb⟩; refine ⟨_, rfl, ?_⟩; have n0_ := Aside0.mk (blk_below (bG BK131.out) hb); have n1_ := Aside0.mk (blk_below (bG BK132.out) hb); have n2_ := Aside0.mk (blk_below (bG BK133.out) hb); have n3_ := Aside0.mk (below_step (eG HB.out) hb); clear BK131; clear BK132; clear BK133; clear HB; have BK131 := n0_; have BK132 := n1_; have BK133 := n2_; have HB := n3_; clear n0_ n1_ n2_ n3_; (try clear hb); (try clear hb2); (try clear hk); (try clear hi); have hnb85 := NB132_133.out; have hnc85 := NB133_132.out; have hcz86_0 : w84.cell? ⟨gb132, 0, none⟩ = some (.int .i64 a1_0) := (blk_cell BK132.out 0).trans rfl; have hcz86_1 : w84.cell? ⟨gb132, 1, none⟩ = some (.int .i64 a1_1) := (blk_cell BK132.out 1).trans rfl; have hcz86_2 : w84.cell? ⟨gb132, 2, none⟩ = some (.int .i64 a1_2) := (blk_cell BK132.out 2).trans rfl; have hfz86_0 := blk_frozen BK132.out 0; have hfz86_1 := blk_frozen BK132.out 1; have hfz86_2 := blk_frozen BK132.out 2) | ((with_reducible refine gate_callee (f := 36) rfl ?_); refine goesL_ (some 16) rfl rfl Tryz.func36 (by kernel_rfl) rfl #[.agg #[.int .i64 a1_0, .int .i64 a1_1, .int .i64 a1_2]] rfl (by (try simp only [List.map_toArray, List.map_cons, List.map_nil]); first | done | rfl | (simp only [List.length_drop, List.length_take]; rfl)) ?_; (with_reducible refine (tariff_ranged.calls a1_0 a1_1 a1_2 true _ A5.out).mono ?_); rintro e w87 ⟨rfl, hb⟩; refine ⟨_, rfl, ?_⟩; have n0_ := Aside0.mk (blk_below (bG BK131.out) hb); have n1_ := Aside0.mk (blk_below (bG BK132.out) hb); have n2_ := Aside0.mk (blk_below (bG BK133.out) hb); have n3_ := Aside0.mk (below_step (eG HB.out) hb); clear BK131; clear BK132; clear BK133; clear HB; have BK131 := n0_; have BK132 := n1_; have BK133 := n2_; have HB := n3_; clear n0_ n1_ n2_ n3_; (try clear hb); (try clear hb2); (try clear hk); (try clear hi)))
     have n0_ := Aside0.mk (blk_drew BK131.out); have n1_ := Aside0.mk (blk_drew BK132.out); have n2_ := Aside0.mk (blk_drew BK133.out); have n3_ := Aside0.mk (below_drew1 HB.out); clear BK131; clear BK132; clear BK133; clear HB; have BK131 := n0_; have BK132 := n1_; have BK133 := n2_; have HB := n3_; clear n0_ n1_ n2_ n3_; refine start_ (n := 8) (S := fun w' => w'.cell? ⟨gb131, 0, none⟩ = some (.int .i64 a0_0) ∧ w'.cell? ⟨gb131, 1, none⟩ = some (.slice A0_1 l0_1.length c0_1)) (ds := []) #[false, false, false, false, false, false, false, false] (by kernel_rfl) rfl rfl ⟨(blk_cell BK131.out 0).trans rfl, (blk_cell BK131.out 1).trans rfl⟩ (fun hHeld => ?_); refine with_tabW tariff_Insert.tab5 tariff_Insert.bits5 (fun HT_ HW_ => ?_)
     generalize w87.drew = w88 at BK131 BK132 BK133 HB hHeld ⊢; refine pure_ (i := 0) (N := some 19) (v := ?_) (a' := ?_) #[true, false, false, false, false, false, false, false] rfl rfl (any_of HT_.out (by kernel_rfl)) (fun _ _ _ h => h) (Or.inl ⟨by rfl, ?_⟩) ?_ ?_; rotate_left
     · intro w'; go_simp; with_reducible rfl
     rotate_left
     · simp only [Act.put, sIA, sC0, sCS, i64_w, i32_w]; rfl
     refine pure_ (i := 2) (N := some 21) (v := ?_) (a' := ?_) #[true, false, true, false, false, false, false, false] rfl rfl (any_of HT_.out (by kernel_rfl)) (fun _ _ _ h => h) (Or.inl ⟨by rfl, ?_⟩) ?_ ?_; rotate_left
     · intro w'; go_simp; with_reducible rfl
     rotate_left
     · simp only [Act.put, sIA, sC0, sCS, i64_w, i32_w]; rfl
     refine take_ (i := 1) (N := some 20) (v := ?_) (a' := ?_) #[true, true, true, false, false, false, false, false] rfl rfl (take_ofW HT_.out HW_.out (by kernel_rfl)) (fun _ _ _ h => h) (Or.inl ⟨by rfl, ?_⟩) hHeld ?_ ?_; rotate_left
     · rintro w' ⟨s0, s1⟩; go_simp; with_reducible rfl
     rotate_left
     · simp only [Act.put, sIA, sC0, sCS, i64_w, i32_w]; rfl
     refine take_ (i := 3) (N := some 22) (v := ?_) (a' := ?_) #[true, true, true, true, false, false, false, false] rfl rfl (take_ofW HT_.out HW_.out (by kernel_rfl)) (fun _ _ _ h => h) (Or.inl ⟨by rfl, ?_⟩) hHeld ?_ ?_; rotate_left
     · rintro w' ⟨s0, s1⟩; go_simp; with_reducible rfl
     rotate_left
     · simp only [Act.put, sIA, sC0, sCS, i64_w, i32_w]; rfl
     refine join_ (σ := Value × Nat) 1 #[true, true, true, true, true, true, true, false] (fun s_ => [(23, s_.1), (6, .pointer (some ⟨s_.2, 0, none⟩)), (24, .agg #[.int .i64 a0_0, s_.1])]) (fun s_ w' => (w'.cell? ⟨gb131, 0, none⟩ = some (.int .i64 a0_0) ∧ w'.cell? ⟨gb131, 1, none⟩ = some (.slice A0_1 l0_1.length c0_1)) ∧ (Kd.R k26 26 w' w.heap.size (fun k_ => k_ ≠ gb132) s_.1 t136) ∧ (w'.heap[gb131]? = some (.cells #[.int .i64 a0_0, .slice A0_1 l0_1.length c0_1] 24 (0, 0))) ∧ (w'.heap[gb132]? = some (.cells #[.int .i64 a1_0, .int .i64 a1_1, .int .i64 a1_2] 26 (0, 0))) ∧ (w'.heap[gb133]? = some (.cells #[.int .i64 0, .slice none 0 0] 24 (0, 0))) ∧ (w'.heap[s_.2]? = some (.cells #[.int .i64 0, .slice none 0 0] 24 (0, 0))) ∧ (w.heap.size ≤ s_.2) ∧ (w.heap.size ≤ s_.2) ∧ (gb131 ≠ s_.2) ∧ (s_.2 ≠ gb131) ∧ (gb132 ≠ s_.2) ∧ (s_.2 ≠ gb132) ∧ (gb133 ≠ s_.2) ∧ (s_.2 ≠ gb133) ∧ (Below w.heap.size w w')) ?_ ?_; rotate_left
     ·
      intro hCont; refine two_ (i := 4) (j := 6) (Ni := some 23) (Nj := some 6) #[true, true, true, true, true, false, false, false] #[true, true, true, true, false, false, true, false] rfl rfl rfl rfl (two_of HT_.out (by kernel_rfl)) (by decide) (by decide) (fun K hK => ?_) (fun K hK => ?_)
      ·
       skip
       refine goes_ Tryz.func38 (by kernel_rfl) rfl #[.slice A0_1 l0_1.length c0_1] (by rfl) rfl rfl (by (try simp only [List.map_toArray, List.map_cons, List.map_nil]); first | done | rfl | (simp only [List.length_drop, List.length_take]; rfl)) ?_; with_reducible refine (slices_Clone26.calls _ _ l0_1 t136 _ ?side1 ?side2 A7.out).mono ?_
       (case side1 => repeat (first | exact (Kd.C_below HR0_1.out HB.out) | (with_reducible refine Kd.C_alloc ?_ _) | (with_reducible refine Kd.C_drewN ?_ _) | (with_reducible refine Kd.C_drew ?_)))
       (case side2 => exact HC0_1.out)
       rintro e w89 ⟨v137, rfl, ho0, hb⟩; refine ⟨_, rfl, ?_⟩; have n0_ := Aside0.mk (Kd.R_lower (Kd.R_newB ho0 (bG BK132.out)) (below_size (eG HB.out))); have n1_ := Aside0.mk (blk_below (bG BK131.out) hb); have n2_ := Aside0.mk (blk_below (bG BK132.out) hb); have n3_ := Aside0.mk (blk_below (bG BK133.out) hb); have n4_ := Aside0.mk (below_step (eG HB.out) hb); clear BK131; clear BK132; clear BK133; clear HB; have HO138 := n0_; have BK131 := n1_; have BK132 := n2_; have BK133 := n3_; have HB := n4_; clear n0_ n1_ n2_ n3_ n4_; (try clear hb)
       (try clear hb2)
       (try clear hk)
       (try clear hi)
       (try clear ho0)
       obtain ⟨Ao90, co90, eo90⟩ := Kd.R_slice HO138.out; (first | subst eo90 | (injection eo90 with f1_ f2_ f3_; have f4_ := f1_.symm; have f5_ := f3_.symm; clear f1_ f2_ f3_; subst f4_; subst f5_))
       refine hK.out _ _ ⟨(blk_cell BK131.out 0).trans rfl, (blk_cell BK131.out 1).trans rfl⟩ (fun hHeld => ?_); clear hK K; refine norm_ (a' := ?_) ?_ ?_; rotate_left
       ·
        show Act.put _ (some 23) _ = _
        simp only [Act.put, sIA, sC0, sCS, i64_w, i32_w]; rfl
       refine pure_ (i := 5) (N := some 24) (v := ?_) (a' := ?_) #[true, true, true, true, true, true, false, false] rfl rfl (any_of HT_.out (by kernel_rfl)) (fun _ _ _ h => h) (Or.inl ⟨by rfl, ?_⟩) ?_ ?_; rotate_left
       · intro w'; go_simp; with_reducible rfl
       rotate_left
       · simp only [Act.put, sIA, sC0, sCS, i64_w, i32_w]; rfl
       refine one_ (i := 6) (N := some 6) #[true, true, true, true, true, true, true, false] rfl rfl (one_of HT_.out (by kernel_rfl)) (by decide) (fun K hK => ?_); refine box_step ?hg (N := 6) ?hd (cs := #[.int .i64 0, .slice none 0 0]) (t := 24) ?hr ?_; (case hd => rfl); (case hg => rfl); (case hr => first | (go_simp; done) | (go_simp; rfl))
       intro gb139 hg w91 hbox hb; have n0_ := Aside0.mk (Kd.R_below (rG HO138.out) hb); have n1_ := Aside0.mk (blk_below (bG BK131.out) hb); have n2_ := Aside0.mk (blk_below (bG BK132.out) hb); have n3_ := Aside0.mk (blk_below (bG BK133.out) hb); have n4_ := Aside0.mk (below_step (eG HB.out) hb); have n5_ := Aside0.mk (hbox); have n6_ := Aside0.mk ((by rw [hg]; exact (below_size (eG HB.out)) : w.heap.size ≤ gb139)); have n7_ := Aside0.mk ((by rw [hg]; exact (below_size (eG HB.out)) : w.heap.size ≤ gb139)); have n8_ := Aside0.mk ((by rw [hg]; exact Nat.ne_of_lt (blk_lt (bG BK131.out)) : gb131 ≠ gb139)); have n9_ := Aside0.mk ((by rw [hg]; exact Nat.ne_of_gt (blk_lt (bG BK131.out)) : gb139 ≠ gb131)); have n10_ := Aside0.mk ((by rw [hg]; exact Nat.ne_of_lt (blk_lt (bG BK132.out)) : gb132 ≠ gb139)); have n11_ := Aside0.mk ((by rw [hg]; exact Nat.ne_of_gt (blk_lt (bG BK132.out)) : gb139 ≠ gb132)); have n12_ := Aside0.mk ((by rw [hg]; exact Nat.ne_of_lt (blk_lt (bG BK133.out)) : gb133 ≠ gb139)); have n13_ := Aside0.mk ((by rw [hg]; exact Nat.ne_of_gt (blk_lt (bG BK133.out)) : gb139 ≠ gb133)); clear HO138; clear BK131; clear BK132; clear BK133; clear HB; have HO138 := n0_; have BK131 := n1_; have BK132 := n2_; have BK133 := n3_; have HB := n4_; have BK139 := n5_; have GW139 := n6_; have GE139 := n7_; have ig139_ := geI GE139
       have NB131_139 := n8_; have NB139_131 := n9_; have NB132_139 := n10_; have NB139_132 := n11_; have NB133_139 := n12_; have NB139_133 := n13_; clear n0_ n1_ n2_ n3_ n4_ n5_ n6_ n7_ n8_ n9_ n10_ n11_ n12_ n13_; clear hb hbox hg; refine hK.out _ _ ⟨(blk_cell BK131.out 0).trans rfl, (blk_cell BK131.out 1).trans rfl⟩ (fun hHeld => ?_); clear hK K; refine norm_ (a' := ?_) ?_ ?_; rotate_left
       ·
        show Act.put _ (some 6) _ = _
        simp only [Act.put, sIA, sC0, sCS, i64_w, i32_w]; rfl
       exact norm_ (by simp only [putAll, Act.put, sIA, sC0, sCS]) (hCont (.slice Ao90 t136.length co90, gb139) _ ⟨hHeld, (by (with_reducible repeat (first | apply Kd.R_alloc | apply Kd.R_drewN | apply Kd.R_drew)); exact Kd.R_mono HO138.out (fun _ hk => hk.2)), (bG BK131.out), (bG BK132.out), (bG BK133.out), (bG BK139.out), GW139.out, GE139.out, NB131_139.out, NB139_131.out, NB132_139.out, NB139_132.out, NB133_139.out, NB139_133.out, (eG HB.out)⟩)
      ·
       skip
       refine box_step ?hg (N := 6) ?hd (cs := #[.int .i64 0, .slice none 0 0]) (t := 24) ?hr ?_; (case hd => rfl); (case hg => rfl); (case hr => first | (go_simp; done) | (go_simp; rfl))
       intro gb139 hg w89 hbox hb; have n0_ := Aside0.mk (blk_below (bG BK131.out) hb); have n1_ := Aside0.mk (blk_below (bG BK132.out) hb); have n2_ := Aside0.mk (blk_below (bG BK133.out) hb); have n3_ := Aside0.mk (below_step (eG HB.out) hb); have n4_ := Aside0.mk (hbox); have n5_ := Aside0.mk ((by rw [hg]; exact (below_size (eG HB.out)) : w.heap.size ≤ gb139)); have n6_ := Aside0.mk ((by rw [hg]; exact (below_size (eG HB.out)) : w.heap.size ≤ gb139)); have n7_ := Aside0.mk ((by rw [hg]; exact Nat.ne_of_lt (blk_lt (bG BK131.out)) : gb131 ≠ gb139)); have n8_ := Aside0.mk ((by rw [hg]; exact Nat.ne_of_gt (blk_lt (bG BK131.out)) : gb139 ≠ gb131)); have n9_ := Aside0.mk ((by rw [hg]; exact Nat.ne_of_lt (blk_lt (bG BK132.out)) : gb132 ≠ gb139)); have n10_ := Aside0.mk ((by rw [hg]; exact Nat.ne_of_gt (blk_lt (bG BK132.out)) : gb139 ≠ gb132)); have n11_ := Aside0.mk ((by rw [hg]; exact Nat.ne_of_lt (blk_lt (bG BK133.out)) : gb133 ≠ gb139)); have n12_ := Aside0.mk ((by rw [hg]; exact Nat.ne_of_gt (blk_lt (bG BK133.out)) : gb139 ≠ gb133)); clear BK131; clear BK132; clear BK133; clear HB; have BK131 := n0_; have BK132 := n1_; have BK133 := n2_; have HB := n3_; have BK139 := n4_; have GW139 := n5_; have GE139 := n6_; have ig139_ := geI GE139
       have NB131_139 := n7_; have NB139_131 := n8_; have NB132_139 := n9_; have NB139_132 := n10_; have NB133_139 := n11_; have NB139_133 := n12_; clear n0_ n1_ n2_ n3_ n4_ n5_ n6_ n7_ n8_ n9_ n10_ n11_ n12_; clear hb hbox hg; refine hK.out _ _ ⟨(blk_cell BK131.out 0).trans rfl, (blk_cell BK131.out 1).trans rfl⟩ (fun hHeld => ?_); clear hK K; refine norm_ (a' := ?_) ?_ ?_; rotate_left
       ·
        show Act.put _ (some 6) _ = _
        simp only [Act.put, sIA, sC0, sCS, i64_w, i32_w]; rfl
       refine one_ (i := 4) (N := some 23) #[true, true, true, true, true, false, true, false] rfl rfl (one_of HT_.out (by kernel_rfl)) (by decide) (fun K hK => ?_); refine goes_ Tryz.func38 (by kernel_rfl) rfl #[.slice A0_1 l0_1.length c0_1] (by rfl) rfl rfl (by (try simp only [List.map_toArray, List.map_cons, List.map_nil]); first | done | rfl | (simp only [List.length_drop, List.length_take]; rfl)) ?_; with_reducible refine (slices_Clone26.calls _ _ l0_1 t136 _ ?side1 ?side2 A7.out).mono ?_
       (case side1 => repeat (first | exact (Kd.C_below HR0_1.out HB.out) | (with_reducible refine Kd.C_alloc ?_ _) | (with_reducible refine Kd.C_drewN ?_ _) | (with_reducible refine Kd.C_drew ?_)))
       (case side2 => exact HC0_1.out)
       rintro e w90 ⟨v137, rfl, ho0, hb⟩; refine ⟨_, rfl, ?_⟩; have n0_ := Aside0.mk (Kd.R_lower (Kd.R_newB ho0 (bG BK132.out)) (below_size (eG HB.out))); have n1_ := Aside0.mk (blk_below (bG BK131.out) hb); have n2_ := Aside0.mk (blk_below (bG BK132.out) hb); have n3_ := Aside0.mk (blk_below (bG BK133.out) hb); have n4_ := Aside0.mk (blk_below (bG BK139.out) hb); have n5_ := Aside0.mk (below_step (eG HB.out) hb); clear BK131; clear BK132; clear BK133; clear BK139; clear HB; have HO138 := n0_; have BK131 := n1_; have BK132 := n2_; have BK133 := n3_; have BK139 := n4_; have HB := n5_; clear n0_ n1_ n2_ n3_ n4_ n5_; (try clear hb)
       (try clear hb2)
       (try clear hk)
       (try clear hi)
       (try clear ho0)
       obtain ⟨Ao91, co91, eo91⟩ := Kd.R_slice HO138.out; (first | subst eo91 | (injection eo91 with f1_ f2_ f3_; have f4_ := f1_.symm; have f5_ := f3_.symm; clear f1_ f2_ f3_; subst f4_; subst f5_))
       refine hK.out _ _ ⟨(blk_cell BK131.out 0).trans rfl, (blk_cell BK131.out 1).trans rfl⟩ (fun hHeld => ?_); clear hK K; refine norm_ (a' := ?_) ?_ ?_; rotate_left
       ·
        show Act.put _ (some 23) _ = _
        simp only [Act.put, sIA, sC0, sCS, i64_w, i32_w]; rfl
       refine pure_ (i := 5) (N := some 24) (v := ?_) (a' := ?_) #[true, true, true, true, true, true, true, false] rfl rfl (any_of HT_.out (by kernel_rfl)) (fun _ _ _ h => h) (Or.inl ⟨by rfl, ?_⟩) ?_ ?_; rotate_left
       · intro w'; go_simp; with_reducible rfl
       rotate_left
       · simp only [Act.put, sIA, sC0, sCS, i64_w, i32_w]; rfl
       exact norm_ (by simp only [putAll, Act.put, sIA, sC0, sCS]) (hCont (.slice Ao91 t136.length co91, gb139) _ ⟨hHeld, (by (with_reducible repeat (first | apply Kd.R_alloc | apply Kd.R_drewN | apply Kd.R_drew)); exact Kd.R_mono HO138.out (fun _ hk => hk.2)), (bG BK131.out), (bG BK132.out), (bG BK133.out), (bG BK139.out), GW139.out, GE139.out, NB131_139.out, NB139_131.out, NB132_139.out, NB139_132.out, NB133_139.out, NB139_133.out, (eG HB.out)⟩)
     rintro ⟨v137, gb139⟩ w92 ⟨hS_, h0_, h1_, h2_, h3_, h4_, h5_, h6_, h7_, h8_, h9_, h10_, h11_, h12_, h13_⟩; have n0_ : Aside0 (Kd.R k26 26 w92 w.heap.size (fun k_ => k_ ≠ gb132) v137 t136) := ⟨h0_⟩; have n1_ : Aside0 (w92.heap[gb131]? = some (.cells #[.int .i64 a0_0, .slice A0_1 l0_1.length c0_1] 24 (0, 0))) := ⟨h1_⟩; have n2_ : Aside0 (w92.heap[gb132]? = some (.cells #[.int .i64 a1_0, .int .i64 a1_1, .int .i64 a1_2] 26 (0, 0))) := ⟨h2_⟩; have n3_ : Aside0 (w92.heap[gb133]? = some (.cells #[.int .i64 0, .slice none 0 0] 24 (0, 0))) := ⟨h3_⟩; have n4_ : Aside0 (w92.heap[gb139]? = some (.cells #[.int .i64 0, .slice none 0 0] 24 (0, 0))) := ⟨h4_⟩; have n5_ : Aside0 (w.heap.size ≤ gb139) := ⟨h5_⟩; have n6_ : Aside0 (w.heap.size ≤ gb139) := ⟨h6_⟩; have n7_ : Aside0 (gb131 ≠ gb139) := ⟨h7_⟩; have n8_ : Aside0 (gb139 ≠ gb131) := ⟨h8_⟩; have n9_ : Aside0 (gb132 ≠ gb139) := ⟨h9_⟩; have n10_ : Aside0 (gb139 ≠ gb132) := ⟨h10_⟩; have n11_ : Aside0 (gb133 ≠ gb139) := ⟨h11_⟩; have n12_ : Aside0 (gb139 ≠ gb133) := ⟨h12_⟩; have n13_ : Aside0 (Below w.heap.size w w92) := ⟨h13_⟩; clear BK131; clear BK132; clear BK133; clear HB; clear h0_ h1_ h2_ h3_ h4_ h5_ h6_ h7_ h8_ h9_ h10_ h11_ h12_ h13_; have HO138 := n0_; have BK131 := n1_; have BK132 := n2_; have BK133 := n3_; have BK139 := n4_; have GW139 := n5_; have GE139 := n6_; have ig139_ := geI GE139
     have NB131_139 := n7_; have NB139_131 := n8_; have NB132_139 := n9_; have NB139_132 := n10_; have NB133_139 := n11_; have NB139_133 := n12_; have HB := n13_; clear n0_ n1_ n2_ n3_ n4_ n5_ n6_ n7_ n8_ n9_ n10_ n11_ n12_ n13_; have hHeld : w92.cell? ⟨gb131, 0, none⟩ = some (.int .i64 a0_0) ∧ w92.cell? ⟨gb131, 1, none⟩ = some (.slice A0_1 l0_1.length c0_1) := hS_; obtain ⟨Ao93, co93, eo93⟩ := Kd.R_slice HO138.out; (first | subst eo93 | (injection eo93 with f1_ f2_ f3_; have f4_ := f1_.symm; have f5_ := f3_.symm; clear f1_ f2_ f3_; subst f4_; subst f5_))
     refine norm_ (a' := ?_) ?_ ?_; rotate_left
     · simp only [putAll, Act.put, sIA, sC0, sCS]; rfl
     refine one_ (i := 7) (N := none) #[true, true, true, true, true, true, true, true] rfl rfl (one_of HT_.out (by kernel_rfl)) (by decide) (fun K hK => ?_); have hs94 : w92.cell? ⟨gb139, 0, none⟩ = some (.int .i64 0) := (blk_cell BK139.out 0).trans rfl; have hfs94 := blk_frozen BK139.out 0; have hns94_0 := NB131_139.out; have hns94_1 := NB132_139.out; have hns94_2 := NB133_139.out; have hms94_0 := NB139_131.out; have hms94_1 := NB139_132.out; have hms94_2 := NB139_133.out; have hs95 : w92.cell? ⟨gb139, 1, none⟩ = some (.slice none 0 0) := (blk_cell BK139.out 1).trans rfl; have hfs95 := blk_frozen BK139.out 1; have hns95_0 := NB131_139.out; have hns95_1 := NB132_139.out; have hns95_2 := NB133_139.out; have hms95_0 := NB139_131.out; have hms95_1 := NB139_132.out; have hms95_2 := NB139_133.out; refine skip_ (w1 := ?_) (by rfl) rfl ?_ ?_; rotate_left
     · go_simp; rfl
     refine hK.out _ _ ⟨((cell_far (p := ⟨gb139, _, none⟩) NB131_139.out _).trans (((cell_far (p := ⟨gb139, _, none⟩) NB131_139.out _).trans (hHeld.1)))), ((cell_far (p := ⟨gb139, _, none⟩) NB131_139.out _).trans (((cell_far (p := ⟨gb139, _, none⟩) NB131_139.out _).trans (hHeld.2))))⟩ (fun hHeld => ?_); clear hK K; refine done_ (done_of HT_.out (by kernel_rfl)) ?_; have hnb96 := NB139_131.out; have hnc96 := NB131_139.out; have hnb97 := NB139_132.out; have hnc97 := NB132_139.out; have hnb98 := NB139_133.out; have hnc98 := NB133_139.out; have hcz99_0 : w92.cell? ⟨gb139, 0, none⟩ = some (.int .i64 0) := (blk_cell BK139.out 0).trans rfl; have hcz99_1 : w92.cell? ⟨gb139, 1, none⟩ = some (.slice none 0 0) := (blk_cell BK139.out 1).trans rfl; have hfz99_0 := blk_frozen BK139.out 0; have hfz99_1 := blk_frozen BK139.out 1; have hcz100_0 : w92.cell? ⟨gb132, 0, none⟩ = some (.int .i64 a1_0) := (blk_cell BK132.out 0).trans rfl; have hcz100_1 : w92.cell? ⟨gb132, 1, none⟩ = some (.int .i64 a1_1) := (blk_cell BK132.out 1).trans rfl; have hcz100_2 : w92.cell? ⟨gb132, 2, none⟩ = some (.int .i64 a1_2) := (blk_cell BK132.out 2).trans rfl; have hfz100_0 := blk_frozen BK132.out 0; have hfz100_1 := blk_frozen BK132.out 1; have hfz100_2 := blk_frozen BK132.out 2; try go_wp2_with (first | ((with_reducible refine gate_callee (f := 42) rfl ?_); refine goesL_ (some 29) rfl rfl Tryz.func42 (by kernel_rfl) rfl #[.slice Ao93 t136.length co93, .agg #[.int .i64 a1_0, .int .i64 a1_1, .int .i64 a1_2], .func (.func 37) #[] #[]] rfl (by (try simp only [List.map_toArray, List.map_cons, List.map_nil]); first | done | rfl | (simp only [List.length_drop, List.length_take]; rfl)) ?_; (with_reducible refine (api_Rate_42_at_37.calls k _ _ t136 a1_0 a1_1 a1_2 t140 false _ ?side1 ?side2 A8.out).mono ?_); (case side1 => refine (Kd.R_reads' (e := 26) (base := w.heap.size) (ok := fun k_ => k_ ≠ gb132) (n := t136.length) (c := co93) ?_).2.2; exact (by (with_reducible repeat (first | apply Kd.R_alloc | apply Kd.R_drewN | apply Kd.R_drew)); exact (Kd.R_mono (Kd.R_far (p := ⟨gb139, 1, none⟩) (Kd.R_far (p := ⟨gb139, 0, none⟩) (Kd.R_types HO138.out BK139.out (by decide)) (fun _ hk => hk.2) (.int .i64 a0_0)) (fun _ hk => hk.2) (.slice Ao93 t136.length co93)) (fun _ h_ => h_.1)))); (case side2 => exact (Kd.R_reads' HO138.out).2.1); rintro e w101 ⟨rfl, hb⟩; refine ⟨_, rfl, ?_⟩; have n0_ := Aside0.mk (Kd.R_below (by (with_reducible repeat (first | apply Kd.R_alloc | apply Kd.R_drewN | apply Kd.R_drew)); exact (Kd.R_mono (Kd.R_far (p := ⟨gb139, 1, none⟩) (Kd.R_far (p := ⟨gb139, 0, none⟩) (Kd.R_types HO138.out BK139.out (by decide)) (fun _ hk => hk.2) (.int .i64 a0_0)) (fun _ hk => hk.2) (.slice Ao93 t136.length co93)) (fun _ h_ => h_.1))) hb); have n1_ := Aside0.mk (blk_below (g := gb131) (o := .cells #[.int .i64 a0_0, .slice A0_1 l0_1.length c0_1] 24 (0, 0)) (by (with_reducible repeat first | apply bN | apply bD | apply bA); refine blk_far ?_ NB131_139.out _; (with_reducible repeat first | apply bN | apply bD | apply bA); refine blk_far ?_ NB131_139.out _; (with_reducible repeat first | apply bN | apply bD | apply bA); exact BK131.out) hb); have n2_ := Aside0.mk (blk_below (g := gb132) (o := .cells #[.int .i64 a1_0, .int .i64 a1_1, .int .i64 a1_2] 26 (0, 0)) (by (with_reducible repeat first | apply bN | apply bD | apply bA); refine blk_far ?_ NB132_139.out _; (with_reducible repeat first | apply bN | apply bD | apply bA); refine blk_far ?_ NB132_139.out _; (with_reducible repeat first | apply bN | apply bD | apply bA); exact BK132.out) hb); have n3_ := Aside0.mk (blk_below (g := gb133) (o := .cells #[.int .i64 0, .slice none 0 0] 24 (0, 0)) (by (with_reducible repeat first | apply bN | apply bD | apply bA); refine blk_far ?_ NB133_139.out _; (with_reducible repeat first | apply bN | apply bD | apply bA); refine blk_far ?_ NB133_139.out _; (with_reducible repeat first | apply bN | apply bD | apply bA); exact BK133.out) hb); have n4_ := Aside0.mk (blk_below (g := gb139) (o := .cells #[.int .i64 a0_0, .slice Ao93 t136.length co93] 24 (0, 0)) (by (with_reducible repeat first | apply bN | apply bD | apply bA); refine blk_put (cs := #[.int .i64 a0_0, .slice none 0 0]) ?_ 1 _ rfl; (with_reducible repeat first | apply bN | apply bD | apply bA); refine blk_put (cs := #[.int .i64 0, .slice none 0 0]) ?_ 0 _ rfl; (with_reducible repeat first | apply bN | apply bD | apply bA); exact BK139.out) hb); have n5_ := Aside0.mk (below_step (eG HB.out) hb); clear HO138; clear BK131; clear BK132; clear BK133; clear BK139; clear HB; have HO138 := n0_; have BK131 := n1_; have BK132 := n2_; have BK133 := n3_; have BK139 := n4_; have HB := n5_; clear n0_ n1_ n2_ n3_ n4_ n5_; (try clear hb); (try clear hb2); (try clear hk); (try clear hi); have hcz102_0 : w101.cell? ⟨gb139, 0, none⟩ = some (.int .i64 a0_0) := (blk_cell BK139.out 0).trans rfl; have hcz102_1 : w101.cell? ⟨gb139, 1, none⟩ = some (.slice Ao93 t136.length co93) := (blk_cell BK139.out 1).trans rfl; have hfz102_0 := blk_frozen BK139.out 0; have hfz102_1 := blk_frozen BK139.out 1; have hcz103_0 : w101.cell? ⟨gb132, 0, none⟩ = some (.int .i64 a1_0) := (blk_cell BK132.out 0).trans rfl; have hcz103_1 : w101.cell? ⟨gb132, 1, none⟩ = some (.int .i64 a1_1) := (blk_cell BK132.out 1).trans rfl; have hcz103_2 : w101.cell? ⟨gb132, 2, none⟩ = some (.int .i64 a1_2) := (blk_cell BK132.out 2).trans rfl; have hfz103_0 := blk_frozen BK132.out 0; have hfz103_1 := blk_frozen BK132.out 1; have hfz103_2 := blk_frozen BK132.out 2) | ((with_reducible refine gate_dst (N := 43) rfl ?_); refine Kd.R_lit k26 _ 26 ?hg (N := 43) ?hd (xs := ([(⟨a1_0, a1_1, a1_2⟩ : S26)] : List (S26))) (inner := [.int .i64 a1_0, .int .i64 a1_1, .int .i64 a1_2]) (ok := fun _ => True) (okp := fun _ => True) ?hr ?hp (fun _ hk => hk) trivial (Below.refl _ _) (Nat.le_refl _) (by simp) ?_; (case hd => rfl); (case hg => rfl); (case hr => first | (go_simp; done) | (go_simp; rfl)); (case hp => exact (Reps.c3 (show Kd.M k26 _ _ _ (⟨a1_0, a1_1, a1_2⟩ : S26) [.int .i64 a1_0, .int .i64 a1_1, .int .i64 a1_2] from (k26_mkM _ _ _ (⟨a1_0, a1_1, a1_2⟩ : S26) )) (Reps.none _ _))); intro v144 w104 ho105 hb hg_ hnew_; clear hg_ hnew_; (first | rw [← Ny143.out] at ho105 | (simp only [Int.reduceToNat] at ho105; rw [← Ny143.out] at ho105)); have n0_ := Aside0.mk (Kd.R_elder' (rG HO138.out) (Kd.R_base ho105) hb); have n1_ := Aside0.mk (Kd.R_lower (Kd.R_newB (Kd.R_new' ho105 (Kd.R_lt (rG HO138.out))) (bG BK132.out)) (below_size (eG HB.out))); have n2_ := Aside0.mk (blk_below (bG BK131.out) hb); have n3_ := Aside0.mk (blk_below (bG BK132.out) hb); have n4_ := Aside0.mk (blk_below (bG BK133.out) hb); have n5_ := Aside0.mk (blk_below (bG BK139.out) hb); have n6_ := Aside0.mk (below_step (eG HB.out) hb); clear HO138; clear BK131; clear BK132; clear BK133; clear BK139; clear HB; have HO138 := n0_; have HO145 := n1_; have BK131 := n2_; have BK132 := n3_; have BK133 := n4_; have BK139 := n5_; have HB := n6_; clear n0_ n1_ n2_ n3_ n4_ n5_ n6_; clear hb ho105; obtain ⟨Ao106, co106, eo106⟩ := Kd.R_slice HO145.out; subst eo106) | ((with_reducible refine gate_callee (f := 43) rfl ?_); refine goesL_ (some 44) rfl rfl Tryz.func43 (by kernel_rfl) rfl #[.slice Ao93 t136.length co93, .int .i64 t140, .slice Ao106 y143.length co106] rfl (by (try simp only [List.map_toArray, List.map_cons, List.map_nil]); first | done | rfl | (simp only [List.length_drop, List.length_take]; rfl)) ?_; (refine (slices_Insert26.own HO138.out HO145.out (fun k hk => by first | exact hk.1.2 | exact hk.2 | exact hk.1.1.2) (below_size HB.out) A43.out).mono ?_); rintro e w107 ⟨v147, rfl, ho0, hgr⟩; refine ⟨_, rfl, ?_⟩; have n0_ := Aside0.mk ho0; have m0_ := Aside0.mk (blk_grown BK131.out hgr (Kd.R_ne HO138.out BK131.out (by decide))); have m1_ := Aside0.mk (blk_grown BK132.out hgr (fun e => by have h_ := HO138.out.1 _ e.symm; first | exact h_ rfl | exact h_.1 rfl | exact h_.1.1 rfl)); have m2_ := Aside0.mk (blk_grown BK133.out hgr (Kd.R_ne HO138.out BK133.out (by decide))); have m3_ := Aside0.mk (blk_grown BK139.out hgr (Kd.R_ne HO138.out BK139.out (by decide))); have n1_ := Aside0.mk (HB.out.grown hgr (below_size HB.out) (fun k e => own_base (R26_own HO138.out) k e)); clear HO138; clear HO145; clear BK131; clear BK132; clear BK133; clear BK139; clear HB; have HO148 := n0_; have BK131 := m0_; have BK132 := m1_; have BK133 := m2_; have BK139 := m3_; have HB := n1_; clear n0_ n1_; (try clear ho0); clear hgr; obtain ⟨Ao108, co108, eo108⟩ := Kd.R_slice HO148.out; subst eo108; have hcz109_0 : w107.cell? ⟨gb139, 0, none⟩ = some (.int .i64 a0_0) := (blk_cell BK139.out 0).trans rfl; have hcz109_1 : w107.cell? ⟨gb139, 1, none⟩ = some (.slice Ao93 t136.length co93) := (blk_cell BK139.out 1).trans rfl; have hfz109_0 := blk_frozen BK139.out 0; have hfz109_1 := blk_frozen BK139.out 1; have hcz110_0 : w107.cell? ⟨gb133, 0, none⟩ = some (.int .i64 0) := (blk_cell BK133.out 0).trans rfl; have hcz110_1 : w107.cell? ⟨gb133, 1, none⟩ = some (.slice none 0 0) := (blk_cell BK133.out 1).trans rfl; have hfz110_0 := blk_frozen BK133.out 0; have hfz110_1 := blk_frozen BK133.out 1))
     refine bodyPost_ret (results_ct rfl _ _ gb133 24 #[.int .i64 a0_0, .slice Ao108 t146.length co108] (0, 0) _ rfl (by (with_reducible repeat first | apply bN | apply bD | apply bA); refine blk_put (cs := #[.int .i64 a0_0, .slice none 0 0]) ?_ 1 _ rfl; (with_reducible repeat first | apply bN | apply bD | apply bA); refine blk_put (cs := #[.int .i64 0, .slice none 0 0]) ?_ 0 _ rfl; (with_reducible repeat first | apply bN | apply bD | apply bA); refine blk_far ?_ NB133_139.out _; (with_reducible repeat first | apply bN | apply bD | apply bA); exact BK133.out) Tryz.underlying24 rfl (by kernel_rfl)) rfl ?_; exact ⟨_, by first | rfl | (simp [errW_none, errW_some] <;> rfl) | (simp [*, errW_none, errW_some] <;> rfl), by (with_reducible repeat (first | apply Kd.R_alloc | apply Kd.R_drewN | apply Kd.R_drew)); exact Kd.R_mono (Kd.R_far (p := ⟨gb133, 1, none⟩) (Kd.R_far (p := ⟨gb133, 0, none⟩) (Kd.R_far (p := ⟨gb139, 1, none⟩) (Kd.R_types (Kd.R_types HO148.out BK139.out (by decide)) BK133.out (by decide)) (fun _ hk => hk.1.2) (.slice Ao108 t146.length co108)) (fun _ hk => hk.2) (.int .i64 a0_0)) (fun _ hk => hk.2) (.slice Ao108 t146.length co108)) (fun _ hk => trivial), eG HB.out⟩
  ·
   replace c6 := Bool.eq_false_iff.mpr c6; subst c6; replace H : (some (0, ([] : List (S26)), 2)) = some (r1, r2, r3) := by rw [if_neg (show ¬ (false = true) by decide)] at H; exact H
   simp only [Option.some.injEq, Prod.mk.injEq] at H; obtain ⟨rfl, rfl, rfl⟩ := H; go_enter Tryz.func16, Tryz.ntmps16
   go_wp2_with (first | ((with_reducible refine gate_dst (N := 2) rfl ?_); refine box_event ?hg (N := 2) ?hd (cs := #[.int .i64 a0_0, .slice A0_1 l0_1.length c0_1]) (t := 24) ?hr ?_; (case hd => rfl); (case hg => rfl); (case hr => first | (go_simp; done) | (go_simp; rfl)); intro gb131 hg w111 hbox hb; have n0_ := Aside0.mk (below_step (eG HB.out) hb); have n1_ := Aside0.mk (hbox); have n2_ := Aside0.mk ((by rw [hg]; exact (below_size (eG HB.out)) : w.heap.size ≤ gb131)); have n3_ := Aside0.mk ((by rw [hg]; exact (below_size (eG HB.out)) : w.heap.size ≤ gb131)); clear HB; have HB := n0_; have BK131 := n1_; have GW131 := n2_; have GE131 := n3_; have ig131_ := geI GE131; clear n0_ n1_ n2_ n3_; clear hb hbox hg) | ((with_reducible refine gate_dst (N := 3) rfl ?_); refine box_event ?hg (N := 3) ?hd (cs := #[.int .i64 a1_0, .int .i64 a1_1, .int .i64 a1_2]) (t := 26) ?hr ?_; (case hd => rfl); (case hg => rfl); (case hr => first | (go_simp; done) | (go_simp; rfl)); intro gb132 hg w112 hbox hb; have n0_ := Aside0.mk (blk_below (bG BK131.out) hb); have n1_ := Aside0.mk (below_step (eG HB.out) hb); have n2_ := Aside0.mk (hbox); have n3_ := Aside0.mk ((by rw [hg]; exact (below_size (eG HB.out)) : w.heap.size ≤ gb132)); have n4_ := Aside0.mk ((by rw [hg]; exact (below_size (eG HB.out)) : w.heap.size ≤ gb132)); have n5_ := Aside0.mk ((by rw [hg]; exact Nat.ne_of_lt (blk_lt (bG BK131.out)) : gb131 ≠ gb132)); have n6_ := Aside0.mk ((by rw [hg]; exact Nat.ne_of_gt (blk_lt (bG BK131.out)) : gb132 ≠ gb131)); clear BK131; clear HB; have BK131 := n0_; have HB := n1_; have BK132 := n2_; have GW132 := n3_; have GE132 := n4_; have ig132_ := geI GE132; have NB131_132 := n5_; have NB132_131 := n6_; clear n0_ n1_ n2_ n3_ n4_ n5_ n6_; clear hb hbox hg) | ((with_reducible refine gate_dst (N := 4) rfl ?_); refine box_event ?hg (N := 4) ?hd (cs := #[.int .i64 0, .slice none 0 0]) (t := 24) ?hr ?_; (case hd => rfl); (case hg => rfl); (case hr => first | (go_simp; done) | (go_simp; rfl)); intro gb133 hg w113 hbox hb; have n0_ := Aside0.mk (blk_below (bG BK131.out) hb); have n1_ := Aside0.mk (blk_below (bG BK132.out) hb); have n2_ := Aside0.mk (below_step (eG HB.out) hb); have n3_ := Aside0.mk (hbox); have n4_ := Aside0.mk ((by rw [hg]; exact (below_size (eG HB.out)) : w.heap.size ≤ gb133)); have n5_ := Aside0.mk ((by rw [hg]; exact (below_size (eG HB.out)) : w.heap.size ≤ gb133)); have n6_ := Aside0.mk ((by rw [hg]; exact Nat.ne_of_lt (blk_lt (bG BK131.out)) : gb131 ≠ gb133)); have n7_ := Aside0.mk ((by rw [hg]; exact Nat.ne_of_gt (blk_lt (bG BK131.out)) : gb133 ≠ gb131)); have n8_ := Aside0.mk ((by rw [hg]; exact Nat.ne_of_lt (blk_lt (bG BK132.out)) : gb132 ≠ gb133)); have n9_ := Aside0.mk ((by rw [hg]; exact Nat.ne_of_gt (blk_lt (bG BK132.out)) : gb133 ≠ gb132)); clear BK131; clear BK132; clear HB; have BK131 := n0_; have BK132 := n1_; have HB := n2_; have BK133 := n3_; have GW133 := n4_; have GE133 := n5_; have ig133_ := geI GE133; have NB131_133 := n6_; have NB133_131 := n7_; have NB132_133 := n8_; have NB133_132 := n9_; clear n0_ n1_ n2_ n3_ n4_ n5_ n6_ n7_ n8_ n9_; clear hb hbox hg; have hnb114 := NB131_132.out; have hnc114 := NB132_131.out; have hnb115 := NB131_133.out; have hnc115 := NB133_131.out; have hcz116_0 : w113.cell? ⟨gb131, 0, none⟩ = some (.int .i64 a0_0) := (blk_cell BK131.out 0).trans rfl; have hcz116_1 : w113.cell? ⟨gb131, 1, none⟩ = some (.slice A0_1 l0_1.length c0_1) := (blk_cell BK131.out 1).trans rfl; have hfz116_0 := blk_frozen BK131.out 0; have hfz116_1 := blk_frozen BK131.out 1) | ((with_reducible refine gate_callee (f := 41) rfl ?_); refine goesL_ (some 11) rfl rfl Tryz.func41 (by kernel_rfl) rfl #[.agg #[.int .i64 a0_0, .slice A0_1 l0_1.length c0_1]] rfl (by (try simp only [List.map_toArray, List.map_cons, List.map_nil]); first | done | rfl | (simp only [List.length_drop, List.length_take]; rfl)) ?_; (with_reducible refine (tariff_right.calls k a0_0 _ _ l0_1 true _ ?side1 ?side2 A3.out).mono ?_); (case side1 => repeat (first | exact (Kd.C_below HR0_1.out HB.out) | (with_reducible refine Kd.C_alloc ?_ _) | (with_reducible refine Kd.C_drewN ?_ _) | (with_reducible refine Kd.C_drew ?_))); (case side2 => exact HC0_1.out); rintro e w117 ⟨rfl, hb⟩; refine ⟨_, rfl, ?_⟩; have n0_ := Aside0.mk (blk_below (bG BK131.out) hb); have n1_ := Aside0.mk (blk_below (bG BK132.out) hb); have n2_ := Aside0.mk (blk_below (bG BK133.out) hb); have n3_ := Aside0.mk (below_step (eG HB.out) hb); clear BK131; clear BK132; clear BK133; clear HB; have BK131 := n0_; have BK132 := n1_; have BK133 := n2_; have HB := n3_; clear n0_ n1_ n2_ n3_; (try clear hb); (try clear hb2); (try clear hk); (try clear hi); have hnb118 := NB132_133.out; have hnc118 := NB133_132.out; have hcz119_0 : w117.cell? ⟨gb132, 0, none⟩ = some (.int .i64 a1_0) := (blk_cell BK132.out 0).trans rfl; have hcz119_1 : w117.cell? ⟨gb132, 1, none⟩ = some (.int .i64 a1_1) := (blk_cell BK132.out 1).trans rfl; have hcz119_2 : w117.cell? ⟨gb132, 2, none⟩ = some (.int .i64 a1_2) := (blk_cell BK132.out 2).trans rfl; have hfz119_0 := blk_frozen BK132.out 0; have hfz119_1 := blk_frozen BK132.out 1; have hfz119_2 := blk_frozen BK132.out 2) | ((with_reducible refine gate_callee (f := 36) rfl ?_); refine goesL_ (some 16) rfl rfl Tryz.func36 (by kernel_rfl) rfl #[.agg #[.int .i64 a1_0, .int .i64 a1_1, .int .i64 a1_2]] rfl (by (try simp only [List.map_toArray, List.map_cons, List.map_nil]); first | done | rfl | (simp only [List.length_drop, List.length_take]; rfl)) ?_; (with_reducible refine (tariff_ranged.calls a1_0 a1_1 a1_2 false _ A5.out).mono ?_); rintro e w120 ⟨rfl, hb⟩; refine ⟨_, rfl, ?_⟩; have n0_ := Aside0.mk (blk_below (bG BK131.out) hb); have n1_ := Aside0.mk (blk_below (bG BK132.out) hb); have n2_ := Aside0.mk (blk_below (bG BK133.out) hb); have n3_ := Aside0.mk (below_step (eG HB.out) hb); clear BK131; clear BK132; clear BK133; clear HB; have BK131 := n0_; have BK132 := n1_; have BK133 := n2_; have HB := n3_; clear n0_ n1_ n2_ n3_; (try clear hb); (try clear hb2); (try clear hk); (try clear hi); have hcz121_0 : w120.cell? ⟨gb133, 0, none⟩ = some (.int .i64 0) := (blk_cell BK133.out 0).trans rfl; have hcz121_1 : w120.cell? ⟨gb133, 1, none⟩ = some (.slice none 0 0) := (blk_cell BK133.out 1).trans rfl; have hfz121_0 := blk_frozen BK133.out 0; have hfz121_1 := blk_frozen BK133.out 1))
   refine bodyPost_ret (results_ct rfl _ _ gb133 24 #[.int .i64 0, .slice none 0 0] (0, 0) _ rfl (by (with_reducible repeat first | apply bN | apply bD | apply bA); refine blk_put (cs := #[.int .i64 0, .slice none 0 0]) ?_ 1 _ rfl; (with_reducible repeat first | apply bN | apply bD | apply bA); refine blk_put (cs := #[.int .i64 0, .slice none 0 0]) ?_ 0 _ rfl; (with_reducible repeat first | apply bN | apply bD | apply bA); exact BK133.out) Tryz.underlying24 rfl (by kernel_rfl)) rfl ?_; exact ⟨_, by first | rfl | (simp [errW_none, errW_some] <;> rfl) | (simp [*, errW_none, errW_some] <;> rfl), by first | exact Kd.R_nil _ _ _ _ _ | exact Kd.N_nil _ _ _ _ _ | exact Kd.V_nil _ _ _ _ _ | exact Kd.Q_nil _ _ _ _ _ | exact Kd.S_nil _ _ _ _ _, eG HB.out⟩
 ·
  replace c4 := Bool.eq_false_iff.mpr c4; subst c4; replace H : (some (0, ([] : List (S26)), 1)) = some (r1, r2, r3) := by rw [if_neg (show ¬ (false = true) by decide)] at H; exact H
  simp only [Option.some.injEq, Prod.mk.injEq] at H; obtain ⟨rfl, rfl, rfl⟩ := H; go_enter Tryz.func16, Tryz.ntmps16
  go_wp2_with (first | ((with_reducible refine gate_dst (N := 2) rfl ?_); refine box_event ?hg (N := 2) ?hd (cs := #[.int .i64 a0_0, .slice A0_1 l0_1.length c0_1]) (t := 24) ?hr ?_; (case hd => rfl); (case hg => rfl); (case hr => first | (go_simp; done) | (go_simp; rfl)); intro gb131 hg w122 hbox hb; have n0_ := Aside0.mk (below_step (eG HB.out) hb); have n1_ := Aside0.mk (hbox); have n2_ := Aside0.mk ((by rw [hg]; exact (below_size (eG HB.out)) : w.heap.size ≤ gb131)); have n3_ := Aside0.mk ((by rw [hg]; exact (below_size (eG HB.out)) : w.heap.size ≤ gb131)); clear HB; have HB := n0_; have BK131 := n1_; have GW131 := n2_; have GE131 := n3_; have ig131_ := geI GE131; clear n0_ n1_ n2_ n3_; clear hb hbox hg) | ((with_reducible refine gate_dst (N := 3) rfl ?_); refine box_event ?hg (N := 3) ?hd (cs := #[.int .i64 a1_0, .int .i64 a1_1, .int .i64 a1_2]) (t := 26) ?hr ?_; (case hd => rfl); (case hg => rfl); (case hr => first | (go_simp; done) | (go_simp; rfl)); intro gb132 hg w123 hbox hb; have n0_ := Aside0.mk (blk_below (bG BK131.out) hb); have n1_ := Aside0.mk (below_step (eG HB.out) hb); have n2_ := Aside0.mk (hbox); have n3_ := Aside0.mk ((by rw [hg]; exact (below_size (eG HB.out)) : w.heap.size ≤ gb132)); have n4_ := Aside0.mk ((by rw [hg]; exact (below_size (eG HB.out)) : w.heap.size ≤ gb132)); have n5_ := Aside0.mk ((by rw [hg]; exact Nat.ne_of_lt (blk_lt (bG BK131.out)) : gb131 ≠ gb132)); have n6_ := Aside0.mk ((by rw [hg]; exact Nat.ne_of_gt (blk_lt (bG BK131.out)) : gb132 ≠ gb131)); clear BK131; clear HB; have BK131 := n0_; have HB := n1_; have BK132 := n2_; have GW132 := n3_; have GE132 := n4_; have ig132_ := geI GE132; have NB131_132 := n5_; have NB132_131 := n6_; clear n0_ n1_ n2_ n3_ n4_ n5_ n6_; clear hb hbox hg) | ((with_reducible refine gate_dst (N := 4) rfl ?_); refine box_event ?hg (N := 4) ?hd (cs := #[.int .i64 0, .slice none 0 0]) (t := 24) ?hr ?_; (case hd => rfl); (case hg => rfl); (case hr => first | (go_simp; done) | (go_simp; rfl)); intro gb133 hg w124 hbox hb; have n0_ := Aside0.mk (blk_below (bG BK131.out) hb); have n1_ := Aside0.mk (blk_below (bG BK132.out) hb); have n2_ := Aside0.mk (below_step (eG HB.out) hb); have n3_ := Aside0.mk (hbox); have n4_ := Aside0.mk ((by rw [hg]; exact (below_size (eG HB.out)) : w.heap.size ≤ gb133)); have n5_ := Aside0.mk ((by rw [hg]; exact (below_size (eG HB.out)) : w.heap.size ≤ gb133)); have n6_ := Aside0.mk ((by rw [hg]; exact Nat.ne_of_lt (blk_lt (bG BK131.out)) : gb131 ≠ gb133)); have n7_ := Aside0.mk ((by rw [hg]; exact Nat.ne_of_gt (blk_lt (bG BK131.out)) : gb133 ≠ gb131)); have n8_ := Aside0.mk ((by rw [hg]; exact Nat.ne_of_lt (blk_lt (bG BK132.out)) : gb132 ≠ gb133)); have n9_ := Aside0.mk ((by rw [hg]; exact Nat.ne_of_gt (blk_lt (bG BK132.out)) : gb133 ≠ gb132)); clear BK131; clear BK132; clear HB; have BK131 := n0_; have BK132 := n1_; have HB := n2_; have BK133 := n3_; have GW133 := n4_; have GE133 := n5_; have ig133_ := geI GE133; have NB131_133 := n6_; have NB133_131 := n7_; have NB132_133 := n8_; have NB133_132 := n9_; clear n0_ n1_ n2_ n3_ n4_ n5_ n6_ n7_ n8_ n9_; clear hb hbox hg; have hnb125 := NB131_132.out; have hnc125 := NB132_131.out; have hnb126 := NB131_133.out; have hnc126 := NB133_131.out; have hcz127_0 : w124.cell? ⟨gb131, 0, none⟩ = some (.int .i64 a0_0) := (blk_cell BK131.out 0).trans rfl; have hcz127_1 : w124.cell? ⟨gb131, 1, none⟩ = some (.slice A0_1 l0_1.length c0_1) := (blk_cell BK131.out 1).trans rfl; have hfz127_0 := blk_frozen BK131.out 0; have hfz127_1 := blk_frozen BK131.out 1) | ((with_reducible refine gate_callee (f := 41) rfl ?_); refine goesL_ (some 11) rfl rfl Tryz.func41 (by kernel_rfl) rfl #[.agg #[.int .i64 a0_0, .slice A0_1 l0_1.length c0_1]] rfl (by (try simp only [List.map_toArray, List.map_cons, List.map_nil]); first | done | rfl | (simp only [List.length_drop, List.length_take]; rfl)) ?_; (with_reducible refine (tariff_right.calls k a0_0 _ _ l0_1 false _ ?side1 ?side2 A3.out).mono ?_); (case side1 => repeat (first | exact (Kd.C_below HR0_1.out HB.out) | (with_reducible refine Kd.C_alloc ?_ _) | (with_reducible refine Kd.C_drewN ?_ _) | (with_reducible refine Kd.C_drew ?_))); (case side2 => exact HC0_1.out); rintro e w128 ⟨rfl, hb⟩; refine ⟨_, rfl, ?_⟩; have n0_ := Aside0.mk (blk_below (bG BK131.out) hb); have n1_ := Aside0.mk (blk_below (bG BK132.out) hb); have n2_ := Aside0.mk (blk_below (bG BK133.out) hb); have n3_ := Aside0.mk (below_step (eG HB.out) hb); clear BK131; clear BK132; clear BK133; clear HB; have BK131 := n0_; have BK132 := n1_; have BK133 := n2_; have HB := n3_; clear n0_ n1_ n2_ n3_; (try clear hb); (try clear hb2); (try clear hk); (try clear hi); have hnb129 := NB133_132.out; have hnc129 := NB132_133.out; have hcz130_0 : w128.cell? ⟨gb133, 0, none⟩ = some (.int .i64 0) := (blk_cell BK133.out 0).trans rfl; have hcz130_1 : w128.cell? ⟨gb133, 1, none⟩ = some (.slice none 0 0) := (blk_cell BK133.out 1).trans rfl; have hfz130_0 := blk_frozen BK133.out 0; have hfz130_1 := blk_frozen BK133.out 1))
  refine bodyPost_ret (results_ct rfl _ _ gb133 24 #[.int .i64 0, .slice none 0 0] (0, 0) _ rfl (by (with_reducible repeat first | apply bN | apply bD | apply bA); refine blk_put (cs := #[.int .i64 0, .slice none 0 0]) ?_ 1 _ rfl; (with_reducible repeat first | apply bN | apply bD | apply bA); refine blk_put (cs := #[.int .i64 0, .slice none 0 0]) ?_ 0 _ rfl; (with_reducible repeat first | apply bN | apply bD | apply bA); exact BK133.out) Tryz.underlying24 rfl (by kernel_rfl)) rfl ?_; exact ⟨_, by first | rfl | (simp [errW_none, errW_some] <;> rfl) | (simp [*, errW_none, errW_some] <;> rfl), by first | exact Kd.R_nil _ _ _ _ _ | exact Kd.N_nil _ _ _ _ _ | exact Kd.V_nil _ _ _ _ _ | exact Kd.Q_nil _ _ _ _ _ | exact Kd.S_nil _ _ _ _ _, eG HB.out⟩
end Go.Proofs.YtholbmidciapdaaGreatDoor.Pr
namespace Go.Proofs.YtholbmidciapdaaGreatDoor.TX
open Go Go.Lib
/-- What lies between the bytes c. -/
def parts (c : UInt8) : List UInt8 → List (List UInt8)
  | [] => [[]]
  | b :: r => if b = c then [] :: parts c r else match parts c r with
    | [] => [[b]]
    | p :: q => (b :: p) :: q
/-- The first piece, the rest behind its byte c, and whether there is one. -/
def cut1 (c : UInt8) : List UInt8 → List UInt8 × List UInt8 × Bool
  | [] => ([], [], false)
  | b :: r => if b = c then ([], r, true) else (b :: (cut1 c r).1, (cut1 c r).2.1, (cut1 c r).2.2)
theorem parts_cons (c b : UInt8) (r : List UInt8) : parts c (b :: r) = if b = c then [] :: parts c r else match parts c r with
    | [] => [[b]]
    | p :: q => (b :: p) :: q := rfl
theorem cut1_cons (c b : UInt8) (r : List UInt8) : cut1 c (b :: r) = if b = c then ([], r, true) else (b :: (cut1 c r).1, (cut1 c r).2.1, (cut1 c r).2.2) := rfl
theorem parts_ne (c : UInt8) (s : List UInt8) : parts c s ≠ [] := by
  cases s with
  | nil => simp [parts]
  | cons b r =>
    rw [parts_cons]
    by_cases h : b = c
    · simp [h]
    · rw [if_neg h]; cases parts c r <;> simp
theorem index_nil (c : UInt8) : index [] [c] = -1 := rfl
theorem index_cons (c b : UInt8) (r : List UInt8) : index (b :: r) [c] = if b = c then 0 else if index r [c] = -1 then -1 else index r [c] + 1 := by
  have e0 : index (b :: r) [c] = if [c].isPrefixOf (b :: r) then 0 else if index r [c] == -1 then -1 else index r [c] + 1 := rfl
  rw [e0]
  by_cases h : b = c
  · subst h; simp [List.isPrefixOf]
  · have h2 : (c == b) = false := by simpa using fun e => h e.symm
    rw [if_neg h]
    simp only [List.isPrefixOf, h2, Bool.false_and, Bool.false_eq_true, if_false]
    by_cases h3 : index r [c] = -1
    · simp [h3]
    · rw [if_neg (by simpa using h3), if_neg h3]
theorem cut_eq (c : UInt8) : ∀ s : List UInt8, cut s [c] = cut1 c s
  | [] => by unfold cut; rw [index_nil]; rfl
  | b :: r => by
    have ih := cut_eq c r
    have hg := index_ge r [c]
    unfold cut at ih ⊢
    rw [cut1_cons, index_cons]
    by_cases h : b = c
    · rw [if_pos h, if_pos h]; simp
    · rw [if_neg h, if_neg h, ← ih]
      by_cases h3 : index r [c] = -1
      · rw [if_pos h3]; simp [h3]
      · rw [if_neg h3, if_pos (by omega), if_pos (by omega)]
        have e : (index r [c] + 1).toNat = (index r [c]).toNat + 1 := by omega
        rw [e, show (index r [c]).toNat + 1 + [c].length = ((index r [c]).toNat + [c].length) + 1 from by omega]
        rfl
theorem cut1_len (c : UInt8) : ∀ s : List UInt8, (cut1 c s).2.2 = true → (cut1 c s).2.1.length < s.length
  | [], h => by simp [cut1] at h
  | b :: r, h => by
    rw [cut1_cons] at h ⊢
    by_cases e : b = c
    · rw [if_pos e]; simp
    · rw [if_neg e] at h ⊢
      have := cut1_len c r h
      simp only [List.length_cons]; omega
theorem cut1_sum (c : UInt8) : ∀ s : List UInt8, (cut1 c s).2.2 = true → s = (cut1 c s).1 ++ c :: (cut1 c s).2.1
  | [], h => by simp [cut1] at h
  | b :: r, h => by
    rw [cut1_cons] at h ⊢
    by_cases e : b = c
    · rw [if_pos e]; simp [e]
    · rw [if_neg e] at h ⊢
      have := cut1_sum c r h
      simp only [List.cons_append]
      rw [← this]
theorem cut1_no (c : UInt8) : ∀ s : List UInt8, (cut1 c s).2.2 = false → (cut1 c s).1 = s ∧ (cut1 c s).2.1 = []
  | [], _ => ⟨rfl, rfl⟩
  | b :: r, h => by
    rw [cut1_cons] at h ⊢
    by_cases e : b = c
    · rw [if_pos e] at h; simp at h
    · rw [if_neg e] at h ⊢
      have := cut1_no c r h
      exact ⟨by simp [this.1], this.2⟩
theorem cut1_first (c : UInt8) : ∀ (a r : List UInt8), c ∉ a → cut1 c (a ++ c :: r) = (a, r, true)
  | [], r, _ => by show cut1 c (c :: r) = _; rw [cut1_cons, if_pos rfl]
  | b :: a, r, h => by
    have h1 : ¬ b = c := fun e => h (by simp [e])
    have ih := cut1_first c a r (fun e => h (by simp [e]))
    show cut1 c (b :: (a ++ c :: r)) = _
    rw [cut1_cons, if_neg h1, ih]
theorem cut1_mem (c : UInt8) : ∀ s : List UInt8, c ∉ (cut1 c s).1
  | [] => by simp [cut1]
  | b :: r => by
    rw [cut1_cons]
    by_cases e : b = c
    · rw [if_pos e]; simp
    · rw [if_neg e]
      have := cut1_mem c r
      simp only [List.mem_cons, not_or]
      exact ⟨fun h => e h.symm, this⟩
theorem parts_cut (c : UInt8) : ∀ s : List UInt8, parts c s = (cut1 c s).1 :: if (cut1 c s).2.2 = true then parts c (cut1 c s).2.1 else []
  | [] => rfl
  | b :: r => by
    have ih := parts_cut c r
    rw [parts_cons, cut1_cons]
    by_cases e : b = c
    · rw [if_pos e, if_pos e]; simp
    · rw [if_neg e, if_neg e, ih]
theorem parts_app (c : UInt8) : ∀ a r : List UInt8, c ∉ a → parts c (a ++ c :: r) = a :: parts c r := by
  intro a r h
  rw [parts_cut, cut1_first c a r h]
  simp
theorem parts_no (c : UInt8) : ∀ a : List UInt8, c ∉ a → parts c a = [a]
  | [], _ => rfl
  | b :: a, h => by
    have h1 : ¬ b = c := fun e => h (by simp [e])
    rw [parts_cons, if_neg h1, parts_no c a (fun e => h (by simp [e]))]
/-- The pieces again, with c between. -/
def glue (c : UInt8) : List (List UInt8) → List UInt8
  | [] => []
  | [p] => p
  | p :: q => p ++ c :: glue c q
theorem glue_parts (c : UInt8) : ∀ s : List UInt8, glue c (parts c s) = s
  | [] => rfl
  | b :: r => by
    have ih := glue_parts c r
    rw [parts_cons]
    by_cases e : b = c
    · rw [if_pos e]
      cases hp : parts c r with
      | nil => exact absurd hp (parts_ne c r)
      | cons q t =>
        rw [hp] at ih
        simp [glue, ih, e]
    · rw [if_neg e]
      cases hp : parts c r with
      | nil => exact absurd hp (parts_ne c r)
      | cons q t =>
        rw [hp] at ih
        cases t with
        | nil => simp only [glue] at ih ⊢; rw [ih]
        | cons u v => simp only [glue] at ih ⊢; rw [List.cons_append, ih]
theorem countFrom_miss (c : UInt8) (n : Nat) (s : List UInt8) (h : index s [c] = -1) : countFrom [c] n s = 0 := by
  cases n with
  | zero => rfl
  | succ n => unfold countFrom; simp [h]
theorem countFrom_cut (c : UInt8) : ∀ (n : Nat) (s : List UInt8), s.length < n → splitK [c] 0 (countFrom [c] n s) s = parts c s
  | 0, s, h => by omega
  | n + 1, s, h => by
    have hc := cut_eq c s
    rw [parts_cut, ← hc]
    unfold cut
    have hg := index_ge s [c]
    by_cases e : index s [c] = -1
    · rw [countFrom_miss c _ s e]
      simp [splitK, e]
    · have e0 : 0 ≤ index s [c] := by omega
      have hr := index_room s [c] e0
      have l1 : ([c] : List UInt8).length = 1 := rfl
      rw [l1] at hr
      have ih := countFrom_cut c n (s.drop ((index s [c]).toNat + [c].length)) (by rw [List.length_drop, l1]; omega)
      have e1 : (index s [c] == -1) = false := by simpa using e
      have ec : countFrom [c] (n + 1) s = countFrom [c] n (s.drop ((index s [c]).toNat + [c].length)) + 1 := by
        rw [countFrom, if_neg (by simp [e1])]; omega
      rw [ec]
      unfold splitK
      rw [if_neg (by simp [e1]), if_pos e0, ih]
      simp
theorem count_le (c : UInt8) : ∀ (n : Nat) (s : List UInt8), countFrom [c] n s ≤ s.length
  | 0, s => Nat.zero_le _
  | n + 1, s => by
    by_cases e : index s [c] = -1
    · rw [countFrom_miss c _ s e]; omega
    · have e0 : 0 ≤ index s [c] := by have := index_ge s [c]; omega
      have hr := index_room s [c] e0
      have l1 : ([c] : List UInt8).length = 1 := rfl
      have ih := count_le c n (s.drop ((index s [c]).toNat + [c].length))
      rw [List.length_drop] at ih
      have e1 : (index s [c] == -1) = false := by simpa using e
      rw [countFrom, if_neg (by simp [e1])]
      rw [l1] at hr ih ⊢
      omega
theorem splitK_len (c : UInt8) : ∀ (n : Nat) (s : List UInt8), s.length < n → (splitK [c] 0 (countFrom [c] n s) s).length = countFrom [c] n s + 1
  | 0, s, h => by omega
  | n + 1, s, h => by
    by_cases e : index s [c] = -1
    · rw [countFrom_miss c _ s e]; rfl
    · have e0 : 0 ≤ index s [c] := by have := index_ge s [c]; omega
      have hr := index_room s [c] e0
      have l1 : ([c] : List UInt8).length = 1 := rfl
      rw [l1] at hr
      have ih := splitK_len c n (s.drop ((index s [c]).toNat + [c].length)) (by rw [List.length_drop, l1]; omega)
      have e1 : (index s [c] == -1) = false := by simpa using e
      have ec : countFrom [c] (n + 1) s = countFrom [c] n (s.drop ((index s [c]).toNat + [c].length)) + 1 := by
        rw [countFrom, if_neg (by simp [e1])]; omega
      rw [ec]
      unfold splitK
      rw [if_neg (by simp [e1]), List.length_cons, ih]
/-- strings.Split at one byte. -/
theorem split_eq (c : UInt8) (s : List UInt8) : splitK [c] 0 (count s [c]) s = parts c s := countFrom_cut c _ s (by omega)
def isDig (b : UInt8) : Bool := decide (48 ≤ b.toNat) && decide (b.toNat ≤ 57)
def valFrom : Nat → List UInt8 → Nat
  | a, [] => a
  | a, b :: r => valFrom (10 * a + (b.toNat - 48)) r
/-- Digits, without a needless 0 ahead. -/
def Canon (s : List UInt8) : Prop := 1 ≤ s.length ∧ ¬ (1 < s.length ∧ s.head? = some 48) ∧ s.all isDig = true
instance (s : List UInt8) : Decidable (Canon s) := by unfold Canon; infer_instance
theorem isDig_iff (b : UInt8) : isDig b = true ↔ 48 ≤ b.toNat ∧ b.toNat ≤ 57 := by simp [isDig]
theorem valFrom_snoc : ∀ (s : List UInt8) (a : Nat) (b : UInt8), valFrom a (s ++ [b]) = 10 * valFrom a s + (b.toNat - 48)
  | [], a, b => rfl
  | c :: r, a, b => valFrom_snoc r _ b
theorem valFrom_lt : ∀ (s : List UInt8) (a : Nat), s.all isDig = true → valFrom a s + 1 ≤ (a + 1) * 10 ^ s.length
  | [], a, _ => Nat.le_of_eq (by rw [List.length_nil, Nat.pow_zero, Nat.mul_one]; rfl)
  | b :: r, a, h => by
    simp only [List.all_cons, Bool.and_eq_true] at h
    have hb := (isDig_iff b).1 h.1
    have ih := valFrom_lt r (10 * a + (b.toNat - 48)) h.2
    refine Nat.le_trans ih ?_
    rw [List.length_cons, Nat.pow_succ]
    generalize 10 ^ r.length = p
    have e : 10 * a + (b.toNat - 48) + 1 ≤ (a + 1) * 10 := by omega
    have := Nat.mul_le_mul_right p e
    rw [Nat.mul_assoc, Nat.mul_comm 10 p] at this
    exact this
theorem valFrom_ge : ∀ (s : List UInt8) (a : Nat), a * 10 ^ s.length ≤ valFrom a s
  | [], a => Nat.le_of_eq (by rw [List.length_nil, Nat.pow_zero, Nat.mul_one]; rfl)
  | b :: r, a => by
    refine Nat.le_trans ?_ (valFrom_ge r (10 * a + (b.toNat - 48)))
    rw [List.length_cons, Nat.pow_succ]
    generalize 10 ^ r.length = p
    have e : a * 10 ≤ 10 * a + (b.toNat - 48) := by omega
    have := Nat.mul_le_mul_right p e
    rw [Nat.mul_assoc, Nat.mul_comm 10 p] at this
    exact this
theorem parse_ok : ∀ (s : List UInt8) (a : Nat), s.all isDig = true → (a + 1) * 10 ^ s.length ≤ 18446744073709551616 → parseUint10 a s = .ok (valFrom a s)
  | [], a, _, _ => rfl
  | b :: r, a, h, hl => by
    simp only [List.all_cons, Bool.and_eq_true] at h
    have hb := (isDig_iff b).1 h.1
    have e : (10 * a + 10) * 10 ^ r.length ≤ 18446744073709551616 := by
      rw [List.length_cons, Nat.pow_succ, Nat.mul_comm (10 ^ r.length) 10, ← Nat.mul_assoc] at hl
      have : (a + 1) * 10 = 10 * a + 10 := by omega
      rw [this] at hl; exact hl
    have hp : 1 ≤ 10 ^ r.length := Nat.one_le_pow _ _ (by decide)
    have e2 : 10 * a + 10 ≤ 18446744073709551616 := Nat.le_trans (Nat.le_mul_of_pos_right _ hp) e
    unfold parseUint10
    rw [if_pos hb, if_neg (by omega), if_neg (by omega)]
    have ec : a * 10 + (b.toNat - 48) = 10 * a + (b.toNat - 48) := by omega
    rw [ec, parse_ok r _ h.2 (Nat.le_trans (Nat.mul_le_mul_right _ (by omega)) e)]
    rfl
theorem digits_small {u : Nat} (h : u < 10) : decDigits u = [UInt8.ofNat (48 + u)] := by rw [decDigits, dif_pos h]
theorem digits_big {u : Nat} (h : ¬ u < 10) : decDigits u = decDigits (u / 10) ++ [UInt8.ofNat (48 + u % 10)] := by rw [decDigits, dif_neg h]
theorem dig_nat {d : Nat} (h : d < 10) : (UInt8.ofNat (48 + d)).toNat = 48 + d := by
  rw [UInt8.toNat_ofNat']; omega
theorem digits_len (u : Nat) : 1 ≤ (decDigits u).length := by
  by_cases h : u < 10
  · rw [digits_small h]; simp
  · rw [digits_big h]; simp
theorem digits_all (u : Nat) : (decDigits u).all isDig = true := by
  induction u using Nat.strongRecOn with
  | _ u ih =>
    by_cases h : u < 10
    · rw [digits_small h]
      simp only [List.all_cons, List.all_nil, Bool.and_true]
      rw [isDig_iff, dig_nat h]; omega
    · rw [digits_big h, List.all_append, ih (u / 10) (by omega)]
      simp only [List.all_cons, List.all_nil, Bool.and_true, Bool.true_and]
      rw [isDig_iff, dig_nat (by omega)]; omega
theorem digits_val (u : Nat) : valFrom 0 (decDigits u) = u := by
  induction u using Nat.strongRecOn with
  | _ u ih =>
    by_cases h : u < 10
    · rw [digits_small h]
      show 10 * 0 + ((UInt8.ofNat (48 + u)).toNat - 48) = u
      rw [dig_nat h]; omega
    · rw [digits_big h, valFrom_snoc, ih (u / 10) (by omega), dig_nat (by omega)]; omega
theorem digits_head (u : Nat) (h1 : 1 ≤ u) : ∃ b r, decDigits u = b :: r ∧ b ≠ 48 := by
  induction u using Nat.strongRecOn with
  | _ u ih =>
    by_cases h : u < 10
    · refine ⟨_, _, digits_small h, fun e => ?_⟩
      have := congrArg UInt8.toNat e
      rw [dig_nat h] at this
      have h48 : (48 : UInt8).toNat = 48 := rfl
      omega
    · obtain ⟨b, r, e, hb⟩ := ih (u / 10) (by omega) (by omega)
      exact ⟨b, _, by rw [digits_big h, e]; rfl, hb⟩
theorem digits_canon (u : Nat) : Canon (decDigits u) := by
  refine ⟨digits_len u, fun h => ?_, digits_all u⟩
  by_cases h0 : u < 10
  · rw [digits_small h0] at h; simp at h
  · obtain ⟨b, r, e, hb⟩ := digits_head u (by omega)
    rw [e] at h
    exact hb (by simpa using h.2)
theorem canon_val (s : List UInt8) (h : Canon s) (h1 : 1 < s.length) : 10 ^ (s.length - 1) ≤ valFrom 0 s := by
  cases s with
  | nil => simp at h1
  | cons b r =>
    obtain ⟨_, h2, h3⟩ := h
    simp only [List.all_cons, Bool.and_eq_true] at h3
    have hb := (isDig_iff b).1 h3.1
    have hb2 : b ≠ 48 := fun e => h2 ⟨h1, by simp [e]⟩
    have hb3 : b.toNat ≠ 48 := fun e => hb2 (UInt8.toNat_inj.1 (by rw [e]; rfl))
    have := valFrom_ge r (10 * 0 + (b.toNat - 48))
    refine Nat.le_trans ?_ this
    simp only [List.length_cons, Nat.add_sub_cancel]
    exact Nat.le_mul_of_pos_left _ (by omega)
/-- A numeral is that of its value. -/
theorem canon_digits : ∀ (n : Nat) (s : List UInt8), s.length = n → Canon s → decDigits (valFrom 0 s) = s
  | 0, s, hn, h => by have := h.1; omega
  | n + 1, s, hn, h => by
    have hne : s ≠ [] := fun e => by rw [e] at hn; simp at hn
    obtain ⟨t, b, rfl⟩ : ∃ t b, s = t ++ [b] := ⟨s.dropLast, s.getLast hne, (List.dropLast_concat_getLast hne).symm⟩
    obtain ⟨h1, h2, h3⟩ := h
    rw [List.all_append] at h3
    simp only [List.all_cons, List.all_nil, Bool.and_true, Bool.and_eq_true] at h3
    have hb := (isDig_iff b).1 h3.2
    rw [valFrom_snoc]
    have eb : UInt8.ofNat (48 + (b.toNat - 48)) = b := UInt8.toNat_inj.1 (by rw [dig_nat (by omega)]; omega)
    cases t with
    | nil =>
      show decDigits (10 * 0 + (b.toNat - 48)) = [b]
      rw [digits_small (by omega), show 48 + (10 * 0 + (b.toNat - 48)) = 48 + (b.toNat - 48) from by omega, eb]
    | cons c t =>
      have hc : Canon (c :: t) := ⟨by simp, fun e => h2 ⟨by simp, by simpa using e.2⟩, h3.1⟩
      have ih := canon_digits n (c :: t) (by rw [List.length_append] at hn; simpa using hn) hc
      have hv : 1 ≤ valFrom 0 (c :: t) := by
        have h3' := h3.1
        simp only [List.all_cons, Bool.and_eq_true] at h3'
        have hc1 := (isDig_iff c).1 h3'.1
        have hc2 : c ≠ 48 := fun e => h2 ⟨by simp, by simp [e]⟩
        have hc3 : c.toNat ≠ 48 := fun e => hc2 (UInt8.toNat_inj.1 (by rw [e]; rfl))
        have := valFrom_ge t (10 * 0 + (c.toNat - 48))
        have hp : 1 ≤ 10 ^ t.length := Nat.one_le_pow _ _ (by decide)
        refine Nat.le_trans ?_ this
        exact Nat.le_trans hp (Nat.le_mul_of_pos_left _ (by omega))
      rw [digits_big (by omega), show (10 * valFrom 0 (c :: t) + (b.toNat - 48)) / 10 = valFrom 0 (c :: t) from by omega, ih,
        show (10 * valFrom 0 (c :: t) + (b.toNat - 48)) % 10 = b.toNat - 48 from by omega, eb]
theorem atoi_of_canon {s : List UInt8} (h : Canon s) (hl : s.length ≤ 18) : atoiAll s = .ok ((valFrom 0 s : Nat) : Int) := by
  obtain ⟨h1, h2, h3⟩ := h
  have hv := valFrom_lt s 0 h3
  have hp : (0 + 1) * 10 ^ s.length ≤ 10 ^ 18 := by
    rw [Nat.zero_add, Nat.one_mul]; exact Nat.pow_le_pow_right (by decide) hl
  have hq := parse_ok s 0 h3 (by omega)
  cases s with
  | nil => simp at h1
  | cons c r =>
    have h3' := h3
    simp only [List.all_cons, Bool.and_eq_true] at h3'
    have hc := (isDig_iff c).1 h3'.1
    unfold atoiAll
    simp only []
    rw [if_neg (by omega : ¬ (c.toNat = 43 ∨ c.toNat = 45))]
    have e : parseMag (c :: r) = .ok (valFrom 0 (c :: r)) := by unfold parseMag; rw [if_neg (by simp)]; exact hq
    rw [e]
    simp only []
    rw [if_neg (by omega), if_neg (by omega), if_neg (by omega)]
/-- A number of at most so many digits, as a word has it. -/
def numP (most : Nat) (s : List UInt8) : Option Nat := if Canon s ∧ s.length ≤ most then some (valFrom 0 s) else none
theorem numP_digits {most : Nat} {u : Nat} (h : (decDigits u).length ≤ most) : numP most (decDigits u) = some u := by
  unfold numP
  rw [if_pos ⟨digits_canon u, h⟩, digits_val]
theorem digits_length_le {u : Nat} : ∀ {n : Nat}, u < 10 ^ n → 1 ≤ n → (decDigits u).length ≤ n := by
  intro n h hn
  have hc := digits_canon u
  rcases Nat.lt_or_ge n (decDigits u).length with hlt | hge
  · have := canon_val _ hc (by omega)
    rw [digits_val] at this
    have h2 : 10 ^ n ≤ 10 ^ ((decDigits u).length - 1) := Nat.pow_le_pow_right (by decide) (by omega)
    omega
  · exact hge
theorem numP_text {most : Nat} {s : List UInt8} {v : Nat} (h : numP most s = some v) : decDigits v = s ∧ Canon s ∧ s.length ≤ most := by
  unfold numP at h
  by_cases c : Canon s ∧ s.length ≤ most
  · rw [if_pos c] at h
    rw [← Option.some.inj h]
    exact ⟨canon_digits _ s rfl c.1, c.1, c.2⟩
  · rw [if_neg c] at h; cases h
theorem digit_not {s : List UInt8} (h : s.all isDig = true) {c : UInt8} (hc : isDig c = false) : c ∉ s := by
  intro hm
  have := List.all_eq_true.1 h c hm
  rw [hc] at this; cases this
end Go.Proofs.YtholbmidciapdaaGreatDoor.TX
namespace Go.Proofs.YtholbmidciapdaaGreatDoor.X
open Go Go.RowKit Go.Proofs.YtholbmidciapdaaGreatDoor.TX Go.Proofs.YtholbmidciapdaaGreatDoorW.PrintWords Go.Proofs.YtholbmidciapdaaGreatDoorW.PrintLast Go.Proofs.YtholbmidciapdaaGreatDoorW.PrintMore
theorem below_drawn (w : World) (n : Nat) : Below w.heap.size w (w.drewN n) := ⟨rfl, rfl, rfl, Nat.le_refl _, fun _ _ => rfl⟩
/-- The first piece, the rest, and whether the byte stands in it. -/
def strings_Cut.f (a0 a1 : ByteArray) : Option (ByteArray × ByteArray × Bool) := if a0.size < 4294967281 then some (⟨(Lib.cut a0.data.toList a1.data.toList).1.toArray⟩, ⟨(Lib.cut a0.data.toList a1.data.toList).2.1.toArray⟩, (Lib.cut a0.data.toList a1.data.toList).2.2) else none
theorem strings_Cut.calls (a0 a1 r1 r2 : ByteArray) (r3 : Bool) (w : World) (hG : GI w) (h : strings_Cut.f a0 a1 = some (r1, r2, r3)) :
    Calls Tryz.prog 71 #[.string a0, .string a1] w fun e w' => e = .returned (.tuple #[.string r1, .string r2, .bool r3]) ∧ Below w.heap.size w w' := by
  unfold strings_Cut.f at h
  by_cases hs : a0.size < 4294967281
  · rw [if_pos hs] at h
    obtain ⟨m, hm⟩ := hG.max
    simp only [Option.some.injEq, Prod.mk.injEq] at h
    obtain ⟨rfl, rfl, rfl⟩ := h
    refine (Tryz.strings_Cut a0 a1 m w hs hm).mono ?_
    rintro e w' ⟨rfl, n, rfl⟩
    exact ⟨rfl, below_drawn w n⟩
  · rw [if_neg hs] at h; cases h
/-- All pieces. -/
def strings_Split.f (a0 a1 : ByteArray) : Option (List ByteArray) := if a0.size < 4294967281 ∧ a1.size = 1 then some (Lib.splitB a1 0 (Lib.countB a0 a1) a0) else none
theorem one_byte {b : ByteArray} (h : b.size = 1) : ∃ c, b = ⟨#[c]⟩ := by
  obtain ⟨⟨l⟩⟩ := b
  match l with
  | [] => cases h
  | [c] => exact ⟨c, rfl⟩
  | _ :: _ :: _ => simp [ByteArray.size] at h
theorem split_len (s : ByteArray) (c : UInt8) : (Lib.splitB ⟨#[c]⟩ 0 (Lib.countB s ⟨#[c]⟩) s).length = Lib.countB s ⟨#[c]⟩ + 1 := by
  have e := congrArg List.length (Lib.splitB_data ⟨#[c]⟩ 0 (Lib.countB s ⟨#[c]⟩) s)
  rw [List.length_map] at e
  rw [e]
  exact splitK_len c _ s.data.toList (by omega)
theorem strings_Split.calls (a0 a1 : ByteArray) (r : List ByteArray) (w : World) (hG : GI w) (h : strings_Split.f a0 a1 = some r) :
    Calls Tryz.prog 73 #[.string a0, .string a1] w fun e w' => ∃ v0_ : Value, e = .returned (v0_) ∧ Kd.R Kd.string 9 w' w.heap.size (fun _ => True) v0_ r ∧ Below w.heap.size w w' := by
  unfold strings_Split.f at h
  by_cases hs : a0.size < 4294967281 ∧ a1.size = 1
  · rw [if_pos hs] at h
    obtain ⟨m, hm⟩ := hG.max
    obtain rfl := Option.some.inj h
    obtain ⟨hs, h1⟩ := hs
    obtain ⟨c, rfl⟩ := one_byte h1
    have hl := split_len a0 c
    have hb : Lib.countB a0 ⟨#[c]⟩ ≤ a0.size := by
      have := count_le c (a0.data.toList.length + 1) a0.data.toList
      have e : a0.data.toList.length = a0.size := Array.length_toList
      have e2 : Lib.countB a0 ⟨#[c]⟩ = Lib.countFrom [c] (a0.data.toList.length + 1) a0.data.toList := rfl
      omega
    refine (Tryz.strings_Split a0 ⟨#[c]⟩ m w hs hm (by omega)).mono ?_
    rintro e w' ⟨rfl, rfl⟩
    refine ⟨_, rfl, ?_, below_alloc (Below.refl _ _) _⟩
    rw [← hl]
    have hm2 : (Lib.splitB ⟨#[c]⟩ 0 (Lib.countB a0 ⟨#[c]⟩) a0).length ≤ maxLen := by rw [hl]; simp only [maxLen]; omega
    clear hl
    generalize Lib.splitB ⟨#[c]⟩ 0 (Lib.countB a0 ⟨#[c]⟩) a0 = ps at hm2 ⊢
    refine Kd.R_of_own ⟨by simp [encs], .inr ⟨w.heap.size, _, (ps.map Value.string).toArray, rfl, Nat.le_refl _, ?_, Nat.le_refl _, hm2, by simp, by rw [Nat.mul_one]; exact List.take_of_length_le (by simp)⟩⟩ (fun _ _ => trivial)
    exact Array.getElem?_push_size
  · rw [if_neg hs] at h; cases h
/-- The number of a numeral, and whether there is an error. -/
def strconv_Atoi.f (a0 : ByteArray) : Option (Int × Option Int) := if a0.size ≤ 281474976710656 then (match Lib.atoiAll a0.data.toList with
  | .ok v => some (v, none)
  | .range => some (Lib.atoiSat a0.data.toList, some 0)
  | _ => some (0, some 0)) else none
theorem strconv_Atoi.oks (a0 : ByteArray) (r1 : Int) (w : World) (hG : GI w) (h : strconv_Atoi.f a0 = some (r1, none)) :
    Calls Tryz.prog 83 #[.string a0] w fun e w' => e = .returned (.tuple #[.int .i64 r1, .nilIface]) ∧ Below w.heap.size w w' := by
  unfold strconv_Atoi.f at h
  by_cases hs : a0.size ≤ 281474976710656
  · rw [if_pos hs] at h
    cases ha : Lib.atoiAll a0.data.toList with
    | ok v =>
      rw [ha] at h
      simp only [Option.some.injEq, Prod.mk.injEq, and_true] at h
      subst h
      refine (Tryz.strconv_Atoi_ok a0 (by omega) v ha w).mono ?_
      rintro e w' ⟨rfl, hw⟩
      refine ⟨rfl, ?_⟩
      rcases hw with rfl | ⟨t, rfl⟩
      · exact Below.refl _ _
      · exact Joins.below_bytesWorld _ w _ t (Nat.le_refl _)
    | range => rw [ha] at h; simp at h
    | _ => rw [ha] at h; simp at h
  · rw [if_neg hs] at h; cases h
theorem strconv_Atoi.fails (a0 : ByteArray) (r1 : Int) (q : Int) (w : World) (hG : GI w) (h : strconv_Atoi.f a0 = some (r1, some q)) :
    Calls Tryz.prog 83 #[.string a0] w fun e w' => ∃ b : Nat, e = .returned (.tuple #[.int .i64 r1, .iface 143 (.pointer (some ⟨b, 0, none⟩))]) ∧ Below w.heap.size w w' := by
  unfold strconv_Atoi.f at h
  by_cases hs : a0.size ≤ 281474976710656
  · rw [if_pos hs] at h
    obtain ⟨_, ⟨tp, p, h1⟩, ⟨tp2, p2, h2⟩, _⟩ := hG
    cases ha : Lib.atoiAll a0.data.toList with
    | ok v => rw [ha] at h; simp at h
    | range =>
      rw [ha] at h
      simp only [Option.some.injEq, Prod.mk.injEq] at h
      obtain ⟨rfl, _⟩ := h
      refine (Tryz.strconv_Atoi_range_var a0 hs ha tp2 p2 w h2).mono ?_
      rintro e w' ⟨N, rfl, _, _, hb⟩
      exact ⟨N, rfl, hb⟩
    | _ =>
      rw [ha] at h
      simp only [Option.some.injEq, Prod.mk.injEq] at h
      obtain ⟨rfl, _⟩ := h
      refine (Tryz.strconv_Atoi_syntax_var a0 hs ha tp p w h1).mono ?_
      rintro e w' ⟨N, rfl, _, _, hb⟩
      exact ⟨N, rfl, hb⟩
  · rw [if_neg hs] at h; cases h
end Go.Proofs.YtholbmidciapdaaGreatDoor.X
namespace Go.Proofs.YtholbmidciapdaaGreatDoor.X
open Go Go.RowKit Go.Lib Go.Proofs Go.Shelf
def strings_Trim.f (a0 a1 : ByteArray) : Option ByteArray := if a0.size < 4294967281 ∧ a1.size < 4294967281 ∧ a1.data.toList.all (fun b => decide (b.toNat < 128)) = true then some ⟨(Lib.trimS a0.data.toList a1.data.toList).toArray⟩ else none
theorem strings_Trim.calls (a0 a1 r : ByteArray) (w : World) (h : strings_Trim.f a0 a1 = some r) : Calls Tryz.prog 82 #[.string a0, .string a1] w fun e w' => e = .returned (.string r) ∧ Below w.heap.size w w' := by
  unfold strings_Trim.f at h
  by_cases hs : a0.size < 4294967281 ∧ a1.size < 4294967281 ∧ a1.data.toList.all (fun b => decide (b.toNat < 128)) = true
  · rw [if_pos hs] at h
    obtain rfl := Option.some.inj h
    exact Any.strings_Trim_laid Tryz.lays160 (by kernel_rfl) a0 a1 w (by omega) hs.2.1 (ascii_of_all hs.2.2)
  · rw [if_neg hs] at h; cases h
end Go.Proofs.YtholbmidciapdaaGreatDoor.X
namespace Go.Proofs.YtholbmidciapdaaGreatDoor.Pr
open Go.RowKit Go.Proofs.YtholbmidciapdaaGreatDoorW.PrintWords Go.Proofs.YtholbmidciapdaaGreatDoorW.PrintLast Go.Proofs.YtholbmidciapdaaGreatDoorW.PrintMore Go.Proofs.YtholbmidciapdaaGreatDoor.X
attribute [local go_sem] max2_int min2_int max_two min_two max_three min_three max_four min_four   -- for this text's walks alone
set_option linter.unusedVariables false
set_option linter.unusedSimpArgs false
def tariff_number.f (a0 : ByteArray) : Option (Int × Bool) := if a0.toList = ([] : List UInt8) then (some (0, false)) else (if (a0.size : Int) > 9 then (some (0, false)) else (if (a0.size : Int) > 1 then (if 0 < (a0.size : Int) then (if (bt a0 0) = 48 then (some (0, false)) else ((strings_Trim.f a0 (⟨#[48, 49, 50, 51, 52, 53, 54, 55, 56, 57]⟩ : ByteArray)).bind fun t189 => (if t189.toList = ([] : List UInt8) then ((strconv_Atoi.f a0).bind fun bt190 => (if bt190.2.isNone = true then (some (bt190.1, true)) else (some (bt190.1, false)))) else (some (0, false))))) else (none)) else ((strings_Trim.f a0 (⟨#[48, 49, 50, 51, 52, 53, 54, 55, 56, 57]⟩ : ByteArray)).bind fun t193 => (if t193.toList = ([] : List UInt8) then ((strconv_Atoi.f a0).bind fun bt194 => (if bt194.2.isNone = true then (some (bt194.1, true)) else (some (bt194.1, false)))) else (some (0, false))))))
set_option maxHeartbeats 8000000 in
set_option maxRecDepth 100000 in
theorem tariff_number.calls (a0 : ByteArray) (r1 : Int) (r2 : Bool) (w : World) (hG : GI w) (h : tariff_number.f a0 = some (r1, r2)) :
  Calls Tryz.prog 74 #[.string a0] w fun e w' => e = .returned (.tuple #[.int .i64 r1, .bool r2]) ∧ Below w.heap.size w w' := by
 have hu78 := Tryz.underlying78; have HG := Aside0.mk hG; clear hG; have HB := Aside0.mk (Below.refl w.heap.size w); have H : (if a0.toList = ([] : List UInt8) then (some (0, false)) else (if (a0.size : Int) > 9 then (some (0, false)) else (if (a0.size : Int) > 1 then (if 0 < (a0.size : Int) then (if (bt a0 0) = 48 then (some (0, false)) else ((strings_Trim.f a0 (⟨#[48, 49, 50, 51, 52, 53, 54, 55, 56, 57]⟩ : ByteArray)).bind fun t189 => (if t189.toList = ([] : List UInt8) then ((strconv_Atoi.f a0).bind fun bt190 => (if bt190.2.isNone = true then (some (bt190.1, true)) else (some (bt190.1, false)))) else (some (0, false))))) else (none)) else ((strings_Trim.f a0 (⟨#[48, 49, 50, 51, 52, 53, 54, 55, 56, 57]⟩ : ByteArray)).bind fun t193 => (if t193.toList = ([] : List UInt8) then ((strconv_Atoi.f a0).bind fun bt194 => (if bt194.2.isNone = true then (some (bt194.1, true)) else (some (bt194.1, false)))) else (some (0, false))))))) = some (r1, r2) := h; clear h; by_cases c2 : a0.toList = ([] : List UInt8)
 ·
  rw [if_pos c2] at H; have c2b0 : (a0.toList == ([] : List UInt8)) = true := beq_iff_eq.mpr c2; have c2b1 : (a0.toList != ([] : List UInt8)) = false := bne_eq_false_iff_eq.mpr c2; clear c2; simp only [Option.some.injEq, Prod.mk.injEq] at H; obtain ⟨rfl, rfl⟩ := H; go_enter Tryz.func74, Tryz.ntmps74
  go_wp2; repeat (go_quiet (fail); try go_wp2)
  go_ret2
  exact ⟨by first | rfl | (simp [errW_none, errW_some] <;> rfl) | (simp [*, errW_none, errW_some] <;> rfl), eG HB.out⟩
 ·
  rw [if_neg c2] at H; have c2b0 : (a0.toList == ([] : List UInt8)) = false := beq_eq_false_iff_ne.mpr c2; have c2b1 : (a0.toList != ([] : List UInt8)) = true := bne_iff_ne.mpr c2; by_cases c3 : (a0.size : Int) > 9
  ·
   rw [if_pos c3] at H; have c3b0 : decide (9 < (a0.size : Int)) = true := decide_eq_true c3; have c3b1 : decide (9 < a0.size) = true := decide_eq_true (by omega); clear c3; simp only [Option.some.injEq, Prod.mk.injEq] at H; obtain ⟨rfl, rfl⟩ := H; go_enter Tryz.func74, Tryz.ntmps74
   go_wp2; repeat (go_quiet (fail); try go_wp2)
   go_ret2
   exact ⟨by first | rfl | (simp [errW_none, errW_some] <;> rfl) | (simp [*, errW_none, errW_some] <;> rfl), eG HB.out⟩
  ·
   rw [if_neg c3] at H; have c3b0 : decide (9 < (a0.size : Int)) = false := decide_eq_false c3; have c3b1 : decide (9 < a0.size) = false := decide_eq_false (by omega); clear c3; by_cases c4 : (a0.size : Int) > 1
   ·
    rw [if_pos c4] at H; have c4b0 : decide (1 < (a0.size : Int)) = true := decide_eq_true c4; have c4b1 : decide (1 < a0.size) = true := decide_eq_true (by omega); clear c4; by_cases c5 : 0 < (a0.size : Int)
    ·
     rw [if_pos c5] at H; have c5b0 : decide (0 < (a0.size : Int)) = true := decide_eq_true c5; have c5b1 : decide (0 < a0.size) = true := decide_eq_true (by omega); clear c5; by_cases c7 : (bt a0 0) = 48
     ·
      rw [if_pos c7] at H; have c7b0 : ((bt a0 0) == 48) = true := beq_iff_eq.mpr c7; have c7b1 : ((bt a0 0) != 48) = false := bne_eq_false_iff_eq.mpr c7; clear c7; simp only [Option.some.injEq, Prod.mk.injEq] at H; obtain ⟨rfl, rfl⟩ := H; have p6 : 0 ≤ (0 : Int) := (by omega); have q6 : 0 < a0.size := (by have : (0 : Int) < (a0.size : Int) := of_decide_eq_true (by first | (with_reducible assumption) | assumption); omega); have hx6 : ∀ h : 0 < a0.size, ((a0[0]'h).toNat : Int) = bt a0 0 := bt_at a0 0; clear p6; have qi6 : (0 < (a0.size : Int)) = True := eq_true (of_decide_eq_true (by first | (with_reducible assumption) | assumption)); replace q6 := eq_true q6; go_enter Tryz.func74, Tryz.ntmps74
      go_wp2; repeat (go_quiet (fail); try go_wp2)
      go_ret2
      exact ⟨by first | rfl | (simp [errW_none, errW_some] <;> rfl) | (simp [*, errW_none, errW_some] <;> rfl), eG HB.out⟩
     ·
      rw [if_neg c7] at H; have c7b0 : ((bt a0 0) == 48) = false := beq_eq_false_iff_ne.mpr c7; have c7b1 : ((bt a0 0) != 48) = true := bne_iff_ne.mpr c7; replace H := Option.bind_eq_some_iff.mp H; obtain ⟨t189, A80, H⟩ := H; replace H : (if t189.toList = ([] : List UInt8) then ((strconv_Atoi.f a0).bind fun bt190 => (if bt190.2.isNone = true then (some (bt190.1, true)) else (some (bt190.1, false)))) else (some (0, false))) = some (r1, r2) := H; have A8 := Aside0.mk A80; clear A80; by_cases c9 : t189.toList = ([] : List UInt8)
      ·
       rw [if_pos c9] at H; have c9b0 : (t189.toList == ([] : List UInt8)) = true := beq_iff_eq.mpr c9; have c9b1 : (t189.toList != ([] : List UInt8)) = false := bne_eq_false_iff_eq.mpr c9; clear c9; replace H := Option.bind_eq_some_iff.mp H; obtain ⟨⟨t190, t191⟩, A100, H⟩ := H; replace H : (if t191.isNone = true then (some (t190, true)) else (some (t190, false))) = some (r1, r2) := H; have A10 := Aside0.mk A100; clear A100; rcases t191 with _ | q192
       ·
        replace H : (some (t190, true)) = some (r1, r2) := by rw [if_pos (show (none : Option Int).isNone = true by rfl)] at H; exact H
        try simp only [errW_none, errW_some]
        simp only [Option.some.injEq, Prod.mk.injEq] at H; obtain ⟨rfl, rfl⟩ := H; have p6 : 0 ≤ (0 : Int) := (by omega); have q6 : 0 < a0.size := (by have : (0 : Int) < (a0.size : Int) := of_decide_eq_true (by first | (with_reducible assumption) | assumption); omega); have hx6 : ∀ h : 0 < a0.size, ((a0[0]'h).toNat : Int) = bt a0 0 := bt_at a0 0; clear p6; have qi6 : (0 < (a0.size : Int)) = True := eq_true (of_decide_eq_true (by first | (with_reducible assumption) | assumption)); replace q6 := eq_true q6; go_enter Tryz.func74, Tryz.ntmps74
        go_wp2_with (first | (go_at_call 82; (with_reducible refine (strings_Trim.calls a0 (⟨#[48, 49, 50, 51, 52, 53, 54, 55, 56, 57]⟩ : ByteArray) t189 _ A8.out).mono ?_); rintro e w11 ⟨rfl, hb⟩; have n0_ := Aside0.mk (below_step (eG HB.out) hb); clear HB; have HB := n0_; clear n0_; (try clear hb); (try clear hb2); (try clear hk); (try clear hi)) | (go_at_call 83; (with_reducible refine (strconv_Atoi.oks a0 t190 _ ?side1 A10.out).mono ?_); (case side1 => exact GI.below HG.out (eG HB.out)); rintro e w12 ⟨rfl, hb⟩; have n0_ := Aside0.mk (below_step (eG HB.out) hb); clear HB; have HB := n0_; clear n0_; (try clear hb); (try clear hb2); (try clear hk); (try clear hi); (try simp only [errW_none, errW_some])))
        repeat (go_quiet (first | (go_at_call 82; (with_reducible refine (strings_Trim.calls a0 (⟨#[48, 49, 50, 51, 52, 53, 54, 55, 56, 57]⟩ : ByteArray) t189 _ A8.out).mono ?_); rintro e w11 ⟨rfl, hb⟩; have n0_ := Aside0.mk (below_step (eG HB.out) hb); clear HB; have HB := n0_; clear n0_; (try clear hb); (try clear hb2); (try clear hk); (try clear hi)) | (go_at_call 83; (with_reducible refine (strconv_Atoi.oks a0 t190 _ ?side1 A10.out).mono ?_); (case side1 => exact GI.below HG.out (eG HB.out)); rintro e w12 ⟨rfl, hb⟩; have n0_ := Aside0.mk (below_step (eG HB.out) hb); clear HB; have HB := n0_; clear n0_; (try clear hb); (try clear hb2); (try clear hk); (try clear hi); (try simp only [errW_none, errW_some]))); try go_wp2_with (first | (go_at_call 82; (with_reducible refine (strings_Trim.calls a0 (⟨#[48, 49, 50, 51, 52, 53, 54, 55, 56, 57]⟩ : ByteArray) t189 _ A8.out).mono ?_); rintro e w11 ⟨rfl, hb⟩; have n0_ := Aside0.mk (below_step (eG HB.out) hb); clear HB; have HB := n0_; clear n0_; (try clear hb); (try clear hb2); (try clear hk); (try clear hi)) | (go_at_call 83; (with_reducible refine (strconv_Atoi.oks a0 t190 _ ?side1 A10.out).mono ?_); (case side1 => exact GI.below HG.out (eG HB.out)); rintro e w12 ⟨rfl, hb⟩; have n0_ := Aside0.mk (below_step (eG HB.out) hb); clear HB; have HB := n0_; clear n0_; (try clear hb); (try clear hb2); (try clear hk); (try clear hi); (try simp only [errW_none, errW_some]))))
        go_ret2
        exact ⟨by first | rfl | (simp [errW_none, errW_some] <;> rfl) | (simp [*, errW_none, errW_some] <;> rfl), eG HB.out⟩
       ·
        replace H : (some (t190, false)) = some (r1, r2) := by rw [if_neg (show ¬ (some q192).isNone = true by simp)] at H; exact H
        try simp only [errW_none, errW_some]
        simp only [Option.some.injEq, Prod.mk.injEq] at H; obtain ⟨rfl, rfl⟩ := H; have p6 : 0 ≤ (0 : Int) := (by omega); have q6 : 0 < a0.size := (by have : (0 : Int) < (a0.size : Int) := of_decide_eq_true (by first | (with_reducible assumption) | assumption); omega); have hx6 : ∀ h : 0 < a0.size, ((a0[0]'h).toNat : Int) = bt a0 0 := bt_at a0 0; clear p6; have qi6 : (0 < (a0.size : Int)) = True := eq_true (of_decide_eq_true (by first | (with_reducible assumption) | assumption)); replace q6 := eq_true q6; go_enter Tryz.func74, Tryz.ntmps74
        go_wp2_with (first | (go_at_call 82; (with_reducible refine (strings_Trim.calls a0 (⟨#[48, 49, 50, 51, 52, 53, 54, 55, 56, 57]⟩ : ByteArray) t189 _ A8.out).mono ?_); rintro e w13 ⟨rfl, hb⟩; have n0_ := Aside0.mk (below_step (eG HB.out) hb); clear HB; have HB := n0_; clear n0_; (try clear hb); (try clear hb2); (try clear hk); (try clear hi)) | (go_at_call 83; (with_reducible refine (strconv_Atoi.fails a0 t190 q192 _ ?side1 A10.out).mono ?_); (case side1 => exact GI.below HG.out (eG HB.out)); rintro e w14 ⟨bE, rfl, hb⟩; have n0_ := Aside0.mk (below_step (eG HB.out) hb); clear HB; have HB := n0_; clear n0_; (try clear hb); (try clear hb2); (try clear hk); (try clear hi); (try simp only [errW_none, errW_some])))
        repeat (go_quiet (first | (go_at_call 82; (with_reducible refine (strings_Trim.calls a0 (⟨#[48, 49, 50, 51, 52, 53, 54, 55, 56, 57]⟩ : ByteArray) t189 _ A8.out).mono ?_); rintro e w13 ⟨rfl, hb⟩; have n0_ := Aside0.mk (below_step (eG HB.out) hb); clear HB; have HB := n0_; clear n0_; (try clear hb); (try clear hb2); (try clear hk); (try clear hi)) | (go_at_call 83; (with_reducible refine (strconv_Atoi.fails a0 t190 q192 _ ?side1 A10.out).mono ?_); (case side1 => exact GI.below HG.out (eG HB.out)); rintro e w14 ⟨bE, rfl, hb⟩; have n0_ := Aside0.mk (below_step (eG HB.out) hb); clear HB; have HB := n0_; clear n0_; (try clear hb); (try clear hb2); (try clear hk); (try clear hi); (try simp only [errW_none, errW_some]))); try go_wp2_with (first | (go_at_call 82; (with_reducible refine (strings_Trim.calls a0 (⟨#[48, 49, 50, 51, 52, 53, 54, 55, 56, 57]⟩ : ByteArray) t189 _ A8.out).mono ?_); rintro e w13 ⟨rfl, hb⟩; have n0_ := Aside0.mk (below_step (eG HB.out) hb); clear HB; have HB := n0_; clear n0_; (try clear hb); (try clear hb2); (try clear hk); (try clear hi)) | (go_at_call 83; (with_reducible refine (strconv_Atoi.fails a0 t190 q192 _ ?side1 A10.out).mono ?_); (case side1 => exact GI.below HG.out (eG HB.out)); rintro e w14 ⟨bE, rfl, hb⟩; have n0_ := Aside0.mk (below_step (eG HB.out) hb); clear HB; have HB := n0_; clear n0_; (try clear hb); (try clear hb2); (try clear hk); (try clear hi); (try simp only [errW_none, errW_some]))))
        go_ret2
        exact ⟨by first | rfl | (simp [errW_none, errW_some] <;> rfl) | (simp [*, errW_none, errW_some] <;> rfl), eG HB.out⟩
      ·
       rw [if_neg c9] at H; have c9b0 : (t189.toList == ([] : List UInt8)) = false := beq_eq_false_iff_ne.mpr c9; have c9b1 : (t189.toList != ([] : List UInt8)) = true := bne_iff_ne.mpr c9; simp only [Option.some.injEq, Prod.mk.injEq] at H; obtain ⟨rfl, rfl⟩ := H; have p6 : 0 ≤ (0 : Int) := (by omega); have q6 : 0 < a0.size := (by have : (0 : Int) < (a0.size : Int) := of_decide_eq_true (by first | (with_reducible assumption) | assumption); omega); have hx6 : ∀ h : 0 < a0.size, ((a0[0]'h).toNat : Int) = bt a0 0 := bt_at a0 0; clear p6; have qi6 : (0 < (a0.size : Int)) = True := eq_true (of_decide_eq_true (by first | (with_reducible assumption) | assumption)); replace q6 := eq_true q6; go_enter Tryz.func74, Tryz.ntmps74
       go_wp2_with (first | (go_at_call 82; (with_reducible refine (strings_Trim.calls a0 (⟨#[48, 49, 50, 51, 52, 53, 54, 55, 56, 57]⟩ : ByteArray) t189 _ A8.out).mono ?_); rintro e w15 ⟨rfl, hb⟩; have n0_ := Aside0.mk (below_step (eG HB.out) hb); clear HB; have HB := n0_; clear n0_; (try clear hb); (try clear hb2); (try clear hk); (try clear hi)))
       repeat (go_quiet (first | (go_at_call 82; (with_reducible refine (strings_Trim.calls a0 (⟨#[48, 49, 50, 51, 52, 53, 54, 55, 56, 57]⟩ : ByteArray) t189 _ A8.out).mono ?_); rintro e w15 ⟨rfl, hb⟩; have n0_ := Aside0.mk (below_step (eG HB.out) hb); clear HB; have HB := n0_; clear n0_; (try clear hb); (try clear hb2); (try clear hk); (try clear hi))); try go_wp2_with (first | (go_at_call 82; (with_reducible refine (strings_Trim.calls a0 (⟨#[48, 49, 50, 51, 52, 53, 54, 55, 56, 57]⟩ : ByteArray) t189 _ A8.out).mono ?_); rintro e w15 ⟨rfl, hb⟩; have n0_ := Aside0.mk (below_step (eG HB.out) hb); clear HB; have HB := n0_; clear n0_; (try clear hb); (try clear hb2); (try clear hk); (try clear hi))))
       go_ret2
       exact ⟨by first | rfl | (simp [errW_none, errW_some] <;> rfl) | (simp [*, errW_none, errW_some] <;> rfl), eG HB.out⟩
    · rw [if_neg c5] at H; exact absurd H (by simp)
   ·
    rw [if_neg c4] at H; have c4b0 : decide (1 < (a0.size : Int)) = false := decide_eq_false c4; have c4b1 : decide (1 < a0.size) = false := decide_eq_false (by omega); clear c4; replace H := Option.bind_eq_some_iff.mp H; obtain ⟨t193, A160, H⟩ := H; replace H : (if t193.toList = ([] : List UInt8) then ((strconv_Atoi.f a0).bind fun bt194 => (if bt194.2.isNone = true then (some (bt194.1, true)) else (some (bt194.1, false)))) else (some (0, false))) = some (r1, r2) := H; have A16 := Aside0.mk A160; clear A160; by_cases c17 : t193.toList = ([] : List UInt8)
    ·
     rw [if_pos c17] at H; have c17b0 : (t193.toList == ([] : List UInt8)) = true := beq_iff_eq.mpr c17; have c17b1 : (t193.toList != ([] : List UInt8)) = false := bne_eq_false_iff_eq.mpr c17; clear c17; replace H := Option.bind_eq_some_iff.mp H; obtain ⟨⟨t194, t195⟩, A180, H⟩ := H; replace H : (if t195.isNone = true then (some (t194, true)) else (some (t194, false))) = some (r1, r2) := H; have A18 := Aside0.mk A180; clear A180; rcases t195 with _ | q196
     ·
      replace H : (some (t194, true)) = some (r1, r2) := by rw [if_pos (show (none : Option Int).isNone = true by rfl)] at H; exact H
      try simp only [errW_none, errW_some]
      simp only [Option.some.injEq, Prod.mk.injEq] at H; obtain ⟨rfl, rfl⟩ := H; go_enter Tryz.func74, Tryz.ntmps74
      go_wp2_with (first | (go_at_call 82; (with_reducible refine (strings_Trim.calls a0 (⟨#[48, 49, 50, 51, 52, 53, 54, 55, 56, 57]⟩ : ByteArray) t193 _ A16.out).mono ?_); rintro e w19 ⟨rfl, hb⟩; have n0_ := Aside0.mk (below_step (eG HB.out) hb); clear HB; have HB := n0_; clear n0_; (try clear hb); (try clear hb2); (try clear hk); (try clear hi)) | (go_at_call 83; (with_reducible refine (strconv_Atoi.oks a0 t194 _ ?side1 A18.out).mono ?_); (case side1 => exact GI.below HG.out (eG HB.out)); rintro e w20 ⟨rfl, hb⟩; have n0_ := Aside0.mk (below_step (eG HB.out) hb); clear HB; have HB := n0_; clear n0_; (try clear hb); (try clear hb2); (try clear hk); (try clear hi); (try simp only [errW_none, errW_some])))
      repeat (go_quiet (first | (go_at_call 82; (with_reducible refine (strings_Trim.calls a0 (⟨#[48, 49, 50, 51, 52, 53, 54, 55, 56, 57]⟩ : ByteArray) t193 _ A16.out).mono ?_); rintro e w19 ⟨rfl, hb⟩; have n0_ := Aside0.mk (below_step (eG HB.out) hb); clear HB; have HB := n0_; clear n0_; (try clear hb); (try clear hb2); (try clear hk); (try clear hi)) | (go_at_call 83; (with_reducible refine (strconv_Atoi.oks a0 t194 _ ?side1 A18.out).mono ?_); (case side1 => exact GI.below HG.out (eG HB.out)); rintro e w20 ⟨rfl, hb⟩; have n0_ := Aside0.mk (below_step (eG HB.out) hb); clear HB; have HB := n0_; clear n0_; (try clear hb); (try clear hb2); (try clear hk); (try clear hi); (try simp only [errW_none, errW_some]))); try go_wp2_with (first | (go_at_call 82; (with_reducible refine (strings_Trim.calls a0 (⟨#[48, 49, 50, 51, 52, 53, 54, 55, 56, 57]⟩ : ByteArray) t193 _ A16.out).mono ?_); rintro e w19 ⟨rfl, hb⟩; have n0_ := Aside0.mk (below_step (eG HB.out) hb); clear HB; have HB := n0_; clear n0_; (try clear hb); (try clear hb2); (try clear hk); (try clear hi)) | (go_at_call 83; (with_reducible refine (strconv_Atoi.oks a0 t194 _ ?side1 A18.out).mono ?_); (case side1 => exact GI.below HG.out (eG HB.out)); rintro e w20 ⟨rfl, hb⟩; have n0_ := Aside0.mk (below_step (eG HB.out) hb); clear HB; have HB := n0_; clear n0_; (try clear hb); (try clear hb2); (try clear hk); (try clear hi); (try simp only [errW_none, errW_some]))))
      go_ret2
      exact ⟨by first | rfl | (simp [errW_none, errW_some] <;> rfl) | (simp [*, errW_none, errW_some] <;> rfl), eG HB.out⟩
     ·
      replace H : (some (t194, false)) = some (r1, r2) := by rw [if_neg (show ¬ (some q196).isNone = true by simp)] at H; exact H
      try simp only [errW_none, errW_some]
      simp only [Option.some.injEq, Prod.mk.injEq] at H; obtain ⟨rfl, rfl⟩ := H; go_enter Tryz.func74, Tryz.ntmps74
      go_wp2_with (first | (go_at_call 82; (with_reducible refine (strings_Trim.calls a0 (⟨#[48, 49, 50, 51, 52, 53, 54, 55, 56, 57]⟩ : ByteArray) t193 _ A16.out).mono ?_); rintro e w21 ⟨rfl, hb⟩; have n0_ := Aside0.mk (below_step (eG HB.out) hb); clear HB; have HB := n0_; clear n0_; (try clear hb); (try clear hb2); (try clear hk); (try clear hi)) | (go_at_call 83; (with_reducible refine (strconv_Atoi.fails a0 t194 q196 _ ?side1 A18.out).mono ?_); (case side1 => exact GI.below HG.out (eG HB.out)); rintro e w22 ⟨bE, rfl, hb⟩; have n0_ := Aside0.mk (below_step (eG HB.out) hb); clear HB; have HB := n0_; clear n0_; (try clear hb); (try clear hb2); (try clear hk); (try clear hi); (try simp only [errW_none, errW_some])))
      repeat (go_quiet (first | (go_at_call 82; (with_reducible refine (strings_Trim.calls a0 (⟨#[48, 49, 50, 51, 52, 53, 54, 55, 56, 57]⟩ : ByteArray) t193 _ A16.out).mono ?_); rintro e w21 ⟨rfl, hb⟩; have n0_ := Aside0.mk (below_step (eG HB.out) hb); clear HB; have HB := n0_; clear n0_; (try clear hb); (try clear hb2); (try clear hk); (try clear hi)) | (go_at_call 83; (with_reducible refine (strconv_Atoi.fails a0 t194 q196 _ ?side1 A18.out).mono ?_); (case side1 => exact GI.below HG.out (eG HB.out)); rintro e w22 ⟨bE, rfl, hb⟩; have n0_ := Aside0.mk (below_step (eG HB.out) hb); clear HB; have HB := n0_; clear n0_; (try clear hb); (try clear hb2); (try clear hk); (try clear hi); (try simp only [errW_none, errW_some]))); try go_wp2_with (first | (go_at_call 82; (with_reducible refine (strings_Trim.calls a0 (⟨#[48, 49, 50, 51, 52, 53, 54, 55, 56, 57]⟩ : ByteArray) t193 _ A16.out).mono ?_); rintro e w21 ⟨rfl, hb⟩; have n0_ := Aside0.mk (below_step (eG HB.out) hb); clear HB; have HB := n0_; clear n0_; (try clear hb); (try clear hb2); (try clear hk); (try clear hi)) | (go_at_call 83; (with_reducible refine (strconv_Atoi.fails a0 t194 q196 _ ?side1 A18.out).mono ?_); (case side1 => exact GI.below HG.out (eG HB.out)); rintro e w22 ⟨bE, rfl, hb⟩; have n0_ := Aside0.mk (below_step (eG HB.out) hb); clear HB; have HB := n0_; clear n0_; (try clear hb); (try clear hb2); (try clear hk); (try clear hi); (try simp only [errW_none, errW_some]))))
      go_ret2
      exact ⟨by first | rfl | (simp [errW_none, errW_some] <;> rfl) | (simp [*, errW_none, errW_some] <;> rfl), eG HB.out⟩
    ·
     rw [if_neg c17] at H; have c17b0 : (t193.toList == ([] : List UInt8)) = false := beq_eq_false_iff_ne.mpr c17; have c17b1 : (t193.toList != ([] : List UInt8)) = true := bne_iff_ne.mpr c17; simp only [Option.some.injEq, Prod.mk.injEq] at H; obtain ⟨rfl, rfl⟩ := H; go_enter Tryz.func74, Tryz.ntmps74
     go_wp2_with (first | (go_at_call 82; (with_reducible refine (strings_Trim.calls a0 (⟨#[48, 49, 50, 51, 52, 53, 54, 55, 56, 57]⟩ : ByteArray) t193 _ A16.out).mono ?_); rintro e w23 ⟨rfl, hb⟩; have n0_ := Aside0.mk (below_step (eG HB.out) hb); clear HB; have HB := n0_; clear n0_; (try clear hb); (try clear hb2); (try clear hk); (try clear hi)))
     repeat (go_quiet (first | (go_at_call 82; (with_reducible refine (strings_Trim.calls a0 (⟨#[48, 49, 50, 51, 52, 53, 54, 55, 56, 57]⟩ : ByteArray) t193 _ A16.out).mono ?_); rintro e w23 ⟨rfl, hb⟩; have n0_ := Aside0.mk (below_step (eG HB.out) hb); clear HB; have HB := n0_; clear n0_; (try clear hb); (try clear hb2); (try clear hk); (try clear hi))); try go_wp2_with (first | (go_at_call 82; (with_reducible refine (strings_Trim.calls a0 (⟨#[48, 49, 50, 51, 52, 53, 54, 55, 56, 57]⟩ : ByteArray) t193 _ A16.out).mono ?_); rintro e w23 ⟨rfl, hb⟩; have n0_ := Aside0.mk (below_step (eG HB.out) hb); clear HB; have HB := n0_; clear n0_; (try clear hb); (try clear hb2); (try clear hk); (try clear hi))))
     go_ret2
     exact ⟨by first | rfl | (simp [errW_none, errW_some] <;> rfl) | (simp [*, errW_none, errW_some] <;> rfl), eG HB.out⟩
def tariff_rate.j0 : Nat → List ByteArray → Bool → Option (Int × Int × Int × Bool)
 | 0, _, _ => none
 | k + 1, x4, x33 => if x33 = true then (some (0, 0, 0, false)) else (if 1 < (x4.length : Int) then ((tariff_number.f (rdOf ByteArray.empty x4 1)).bind fun bt205 => (if 3 < (x4.length : Int) then ((tariff_number.f (rdOf ByteArray.empty x4 3)).bind fun bt208 => (if 5 < (x4.length : Int) then ((tariff_number.f (rdOf ByteArray.empty x4 5)).bind fun bt211 => (if bt205.2 = true then (if bt208.2 = true then (some (bt205.1, bt208.1, bt211.1, bt211.2)) else (some (bt205.1, bt208.1, bt211.1, false))) else (some (bt205.1, bt208.1, bt211.1, false)))) else (none))) else (none))) else (none))
def tariff_rate.f (k : Nat) (a0 : ByteArray) : Option (Int × Int × Int × Bool) := (strings_Split.f a0 (⟨#[32]⟩ : ByteArray)).bind fun t198 => (if (t198.length : Int) = 6 then (if 0 < (t198.length : Int) then (if (rdOf ByteArray.empty t198 0).toList = ([99, 108, 97, 115, 115] : List UInt8) then (if 2 < (t198.length : Int) then (if (rdOf ByteArray.empty t198 2).toList = ([102, 114, 111, 109] : List UInt8) then (if 4 < (t198.length : Int) then (tariff_rate.j0 k t198 ((rdOf ByteArray.empty t198 4).toList != ([97, 116] : List UInt8))) else (none)) else (tariff_rate.j0 k t198 true)) else (none)) else (tariff_rate.j0 k t198 true)) else (none)) else (tariff_rate.j0 k t198 true))
set_option maxHeartbeats 8000000 in
set_option maxRecDepth 100000 in
theorem tariff_rate.calls (k : Nat) (a0 : ByteArray) (r1 : Int) (r2 : Int) (r3 : Int) (r4 : Bool) (w : World) (hG : GI w) (h : tariff_rate.f k a0 = some (r1, r2, r3, r4)) :
  Calls Tryz.prog 60 #[.string a0] w fun e w' => e = .returned (.tuple #[.agg #[.int .i64 r1, .int .i64 r2, .int .i64 r3], .bool r4]) ∧ Below w.heap.size w w' := by
 have hu26 := Tryz.underlying26; have HG := Aside0.mk hG; clear hG; have HB := Aside0.mk (Below.refl w.heap.size w); have H : ((strings_Split.f a0 (⟨#[32]⟩ : ByteArray)).bind fun t198 => (if (t198.length : Int) = 6 then (if 0 < (t198.length : Int) then (if (rdOf ByteArray.empty t198 0).toList = ([99, 108, 97, 115, 115] : List UInt8) then (if 2 < (t198.length : Int) then (if (rdOf ByteArray.empty t198 2).toList = ([102, 114, 111, 109] : List UInt8) then (if 4 < (t198.length : Int) then (tariff_rate.j0 k t198 ((rdOf ByteArray.empty t198 4).toList != ([97, 116] : List UInt8))) else (none)) else (tariff_rate.j0 k t198 true)) else (none)) else (tariff_rate.j0 k t198 true)) else (none)) else (tariff_rate.j0 k t198 true))) = some (r1, r2, r3, r4) := h; clear h; replace H := Option.bind_eq_some_iff.mp H; obtain ⟨t198, A20, H⟩ := H; replace H : (if (t198.length : Int) = 6 then (if 0 < (t198.length : Int) then (if (rdOf ByteArray.empty t198 0).toList = ([99, 108, 97, 115, 115] : List UInt8) then (if 2 < (t198.length : Int) then (if (rdOf ByteArray.empty t198 2).toList = ([102, 114, 111, 109] : List UInt8) then (if 4 < (t198.length : Int) then (tariff_rate.j0 k t198 ((rdOf ByteArray.empty t198 4).toList != ([97, 116] : List UInt8))) else (none)) else (tariff_rate.j0 k t198 true)) else (none)) else (tariff_rate.j0 k t198 true)) else (none)) else (tariff_rate.j0 k t198 true)) = some (r1, r2, r3, r4) := H; have A2 := Aside0.mk A20; clear A20; have HC3 := Aside0.mk H; clear H; go_enter Tryz.func60, Tryz.ntmps60
 go_upto_region 2 with (first | ((with_reducible refine gate_dst (N := 2) rfl ?_); refine box_event ?hg (N := 2) ?hd (cs := #[.int .i64 0, .int .i64 0, .int .i64 0]) (t := 26) ?hr ?_; (case hd => rfl); (case hg => rfl); (case hr => first | (go_simp; done) | (go_simp; rfl)); intro gb197 hg w4 hbox hb; have n0_ := Aside0.mk (below_step (eG HB.out) hb); have n1_ := Aside0.mk (hbox); have n2_ := Aside0.mk ((by rw [hg]; exact (below_size (eG HB.out)) : w.heap.size ≤ gb197)); have n3_ := Aside0.mk ((by rw [hg]; exact (below_size (eG HB.out)) : w.heap.size ≤ gb197)); clear HB; have HB := n0_; have BK197 := n1_; have GW197 := n2_; have GE197 := n3_; have ig197_ := geI GE197; clear n0_ n1_ n2_ n3_; clear hb hbox hg) | ((with_reducible refine gate_callee (f := 73) rfl ?_); refine goesL_ (some 12) rfl rfl Tryz.func73 (by kernel_rfl) rfl #[.string a0, .string (⟨#[32]⟩ : ByteArray)] rfl (by (try simp only [List.map_toArray, List.map_cons, List.map_nil]); first | done | rfl | (simp only [List.length_drop, List.length_take]; rfl)) ?_; (with_reducible refine (strings_Split.calls a0 (⟨#[32]⟩ : ByteArray) t198 _ ?side1 A2.out).mono ?_); (case side1 => exact GI.below HG.out (eG HB.out)); rintro e w5 ⟨v199, rfl, ho0, hb⟩; refine ⟨_, rfl, ?_⟩; have n0_ := Aside0.mk (Kd.R_lower ho0 (below_size (eG HB.out))); have n1_ := Aside0.mk (blk_below (bG BK197.out) hb); have n2_ := Aside0.mk (below_step (eG HB.out) hb); clear BK197; clear HB; have HO200 := n0_; have BK197 := n1_; have HB := n2_; clear n0_ n1_ n2_; (try clear hb); (try clear hb2); (try clear hk); (try clear hi); (try clear ho0)))
 (try simp only [Act.put, sIA, sC0, sCS])
 go_cut [33] (fun v33 wc => ∃ (kq : Nat) (x33_2 : Bool), v33 = .bool x33_2 ∧ Aside0 (tariff_rate.j0 kq t198 x33_2 = some (r1, r2, r3, r4)) ∧ Aside0 (kq ≤ k) ∧ Aside0 (Kd.R Kd.string 9 wc w.heap.size (fun _ => True) v199 t198) ∧ Aside0 (wc.heap[gb197]? = some (.cells #[.int .i64 0, .int .i64 0, .int .i64 0] 26 (0, 0))) ∧ Aside0 (Below w.heap.size w wc))
 case first =>
  have H := HC3.out; clear HC3; by_cases c6 : (t198.length : Int) = 6
  ·
   rw [if_pos c6] at H; have c6b0 : ((t198.length : Int) == 6) = true := beq_iff_eq.mpr c6; have c6b1 : ((t198.length : Int) != 6) = false := bne_eq_false_iff_eq.mpr c6; clear c6; (first | rw [c6b0] | (simp only [i64_w, i32_w]; rw [c6b0]) | skip)
   by_cases c7 : 0 < (t198.length : Int)
   ·
    rw [if_pos c7] at H; have c7b0 : decide (0 < (t198.length : Int)) = true := decide_eq_true c7; have c7b1 : decide (0 < t198.length) = true := decide_eq_true (by omega); clear c7; by_cases c8 : (rdOf ByteArray.empty t198 0).toList = ([99, 108, 97, 115, 115] : List UInt8)
    ·
     rw [if_pos c8] at H; have c8b0 : ((rdOf ByteArray.empty t198 0).toList == ([99, 108, 97, 115, 115] : List UInt8)) = true := beq_iff_eq.mpr c8; have c8b1 : ((rdOf ByteArray.empty t198 0).toList != ([99, 108, 97, 115, 115] : List UInt8)) = false := bne_eq_false_iff_eq.mpr c8; clear c8; by_cases c9 : 2 < (t198.length : Int)
     ·
      rw [if_pos c9] at H; have c9b0 : decide (2 < (t198.length : Int)) = true := decide_eq_true c9; have c9b1 : decide (2 < t198.length) = true := decide_eq_true (by omega); clear c9; by_cases c10 : (rdOf ByteArray.empty t198 2).toList = ([102, 114, 111, 109] : List UInt8)
      ·
       rw [if_pos c10] at H; have c10b0 : ((rdOf ByteArray.empty t198 2).toList == ([102, 114, 111, 109] : List UInt8)) = true := beq_iff_eq.mpr c10; have c10b1 : ((rdOf ByteArray.empty t198 2).toList != ([102, 114, 111, 109] : List UInt8)) = false := bne_eq_false_iff_eq.mpr c10; clear c10; by_cases c11 : 4 < (t198.length : Int)
       ·
        rw [if_pos c11] at H; have c11b0 : decide (4 < (t198.length : Int)) = true := decide_eq_true c11; have c11b1 : decide (4 < t198.length) = true := decide_eq_true (by omega); clear c11; have H' := Aside0.mk H; clear H; obtain ⟨Ao12, co12, eo12⟩ := Kd.R_slice HO200.out; subst eo12; have p201 : 0 ≤ (0 : Int) := (by omega); have q201 : 0 < (t198.length : Int) := of_decide_eq_true (by first | (with_reducible assumption) | assumption); obtain ⟨ad201, e201, hx201_0⟩ := Kd.at_string (Kd.R_reads' HO200.out).2.2 0 p201 q201; cases e201; have qi201 : (0 < t198.length) = True := eq_true (by omega); (try rw [show ((0 : Int)).toNat = 0 from rfl] at hx201_0)
        (try rw [Addr.add_zero'] at hx201_0)
        replace p201 := eq_true p201; replace q201 := eq_true q201; have p202 : 0 ≤ (2 : Int) := (by omega); have q202 : 2 < (t198.length : Int) := of_decide_eq_true (by first | (with_reducible assumption) | assumption); obtain ⟨ad202, e202, hx202_0⟩ := Kd.at_string (Kd.R_reads' HO200.out).2.2 2 p202 q202; obtain rfl : ad201 = ad202 := (by injection e202); (try simp only [show (2 : Int).toNat = 2 from rfl, Nat.reduceMul, Nat.reduceEqDiff, Go.Addr.add, ↓reduceIte] at hx202_0)
        have qi202 : (2 < t198.length) = True := eq_true (by omega); (try rw [show ((2 : Int)).toNat = 2 from rfl] at hx202_0)
        replace p202 := eq_true p202; replace q202 := eq_true q202; have p203 : 0 ≤ (4 : Int) := (by omega); have q203 : 4 < (t198.length : Int) := of_decide_eq_true (by first | (with_reducible assumption) | assumption); obtain ⟨ad203, e203, hx203_0⟩ := Kd.at_string (Kd.R_reads' HO200.out).2.2 4 p203 q203; obtain rfl : ad201 = ad203 := (by injection e203); (try simp only [show (4 : Int).toNat = 4 from rfl, Nat.reduceMul, Nat.reduceEqDiff, Go.Addr.add, ↓reduceIte] at hx203_0)
        have qi203 : (4 < t198.length) = True := eq_true (by omega); (try rw [show ((4 : Int)).toNat = 4 from rfl] at hx203_0)
        replace p203 := eq_true p203; replace q203 := eq_true q203; go_wp2; go_meet
        case rel => exact ⟨_, (((rdOf ByteArray.empty t198 4).toList != ([97, 116] : List UInt8))), (by first | rfl | (simp; done) | (simp [*]; done)), H', ⟨by first | omega | exact Nat.le_refl _⟩, ⟨by (with_reducible repeat (first | apply Kd.R_alloc | apply Kd.R_drewN | apply Kd.R_drew)); exact HO200.out⟩, ⟨by (with_reducible repeat first | apply bN | apply bD | apply bA); exact BK197.out⟩, ⟨eG HB.out⟩⟩
       · rw [if_neg c11] at H; exact absurd H (by simp)
      ·
       rw [if_neg c10] at H; have c10b0 : ((rdOf ByteArray.empty t198 2).toList == ([102, 114, 111, 109] : List UInt8)) = false := beq_eq_false_iff_ne.mpr c10; have c10b1 : ((rdOf ByteArray.empty t198 2).toList != ([102, 114, 111, 109] : List UInt8)) = true := bne_iff_ne.mpr c10; have H' := Aside0.mk H; clear H; obtain ⟨Ao13, co13, eo13⟩ := Kd.R_slice HO200.out; subst eo13; have p201 : 0 ≤ (0 : Int) := (by omega); have q201 : 0 < (t198.length : Int) := of_decide_eq_true (by first | (with_reducible assumption) | assumption); obtain ⟨ad201, e201, hx201_0⟩ := Kd.at_string (Kd.R_reads' HO200.out).2.2 0 p201 q201; cases e201; have qi201 : (0 < t198.length) = True := eq_true (by omega); (try rw [show ((0 : Int)).toNat = 0 from rfl] at hx201_0)
       (try rw [Addr.add_zero'] at hx201_0)
       replace p201 := eq_true p201; replace q201 := eq_true q201; have p202 : 0 ≤ (2 : Int) := (by omega); have q202 : 2 < (t198.length : Int) := of_decide_eq_true (by first | (with_reducible assumption) | assumption); obtain ⟨ad202, e202, hx202_0⟩ := Kd.at_string (Kd.R_reads' HO200.out).2.2 2 p202 q202; obtain rfl : ad201 = ad202 := (by injection e202); (try simp only [show (2 : Int).toNat = 2 from rfl, Nat.reduceMul, Nat.reduceEqDiff, Go.Addr.add, ↓reduceIte] at hx202_0)
       have qi202 : (2 < t198.length) = True := eq_true (by omega); (try rw [show ((2 : Int)).toNat = 2 from rfl] at hx202_0)
       replace p202 := eq_true p202; replace q202 := eq_true q202; go_wp2; go_meet
       case rel => exact ⟨_, (true), (by first | rfl | (simp; done) | (simp [*]; done)), H', ⟨by first | omega | exact Nat.le_refl _⟩, ⟨by (with_reducible repeat (first | apply Kd.R_alloc | apply Kd.R_drewN | apply Kd.R_drew)); exact HO200.out⟩, ⟨by (with_reducible repeat first | apply bN | apply bD | apply bA); exact BK197.out⟩, ⟨eG HB.out⟩⟩
     · rw [if_neg c9] at H; exact absurd H (by simp)
    ·
     rw [if_neg c8] at H; have c8b0 : ((rdOf ByteArray.empty t198 0).toList == ([99, 108, 97, 115, 115] : List UInt8)) = false := beq_eq_false_iff_ne.mpr c8; have c8b1 : ((rdOf ByteArray.empty t198 0).toList != ([99, 108, 97, 115, 115] : List UInt8)) = true := bne_iff_ne.mpr c8; have H' := Aside0.mk H; clear H; obtain ⟨Ao14, co14, eo14⟩ := Kd.R_slice HO200.out; subst eo14; have p201 : 0 ≤ (0 : Int) := (by omega); have q201 : 0 < (t198.length : Int) := of_decide_eq_true (by first | (with_reducible assumption) | assumption); obtain ⟨ad201, e201, hx201_0⟩ := Kd.at_string (Kd.R_reads' HO200.out).2.2 0 p201 q201; cases e201; have qi201 : (0 < t198.length) = True := eq_true (by omega); (try rw [show ((0 : Int)).toNat = 0 from rfl] at hx201_0)
     (try rw [Addr.add_zero'] at hx201_0)
     replace p201 := eq_true p201; replace q201 := eq_true q201; go_wp2; go_meet
     case rel => exact ⟨_, (true), (by first | rfl | (simp; done) | (simp [*]; done)), H', ⟨by first | omega | exact Nat.le_refl _⟩, ⟨by (with_reducible repeat (first | apply Kd.R_alloc | apply Kd.R_drewN | apply Kd.R_drew)); exact HO200.out⟩, ⟨by (with_reducible repeat first | apply bN | apply bD | apply bA); exact BK197.out⟩, ⟨eG HB.out⟩⟩
   · rw [if_neg c7] at H; exact absurd H (by simp)
  ·
   rw [if_neg c6] at H; have c6b0 : ((t198.length : Int) == 6) = false := beq_eq_false_iff_ne.mpr c6; have c6b1 : ((t198.length : Int) != 6) = true := bne_iff_ne.mpr c6; (first | rw [c6b0] | (simp only [i64_w, i32_w]; rw [c6b0]) | skip)
   have H' := Aside0.mk H; clear H; obtain ⟨Ao15, co15, eo15⟩ := Kd.R_slice HO200.out; subst eo15; go_wp2; go_meet
   case rel => exact ⟨_, (true), (by first | rfl | (simp; done) | (simp [*]; done)), H', ⟨by first | omega | exact Nat.le_refl _⟩, ⟨by (with_reducible repeat (first | apply Kd.R_alloc | apply Kd.R_drewN | apply Kd.R_drew)); exact HO200.out⟩, ⟨by (with_reducible repeat first | apply bN | apply bD | apply bA); exact BK197.out⟩, ⟨eG HB.out⟩⟩
 case rest =>
  clear HC3; repeat first | clear c1 | clear p2 | clear q2 | clear hx2 | clear qi2 | clear c6 | clear c6b0 | clear c6b1 | clear c7 | clear c7b0 | clear c7b1 | clear c8 | clear c8b0 | clear c8b1 | clear c9 | clear c9b0 | clear c9b1 | clear c10 | clear c10b0 | clear c10b1 | clear c11 | clear c11b0 | clear c11b1 | clear hx201_0 | clear hx202_0 | clear hx203_0 | clear p201 | clear p202 | clear p203 | clear q201 | clear q202 | clear q203
  obtain ⟨kq, x33_2, rfl, HA, HJ2, HO_4, BK197, HB⟩ := hcut
  cases kq with
  | zero => exact absurd HA.out (by simp [tariff_rate.j0])
  | succ kj2 =>
   have H := HA.out; clear HA; simp only [tariff_rate.j0] at H; by_cases c16 : x33_2 = true
   ·
    subst c16; replace H : (some (0, 0, 0, false)) = some (r1, r2, r3, r4) := by rw [if_pos rfl] at H; exact H
    simp only [Option.some.injEq, Prod.mk.injEq] at H; obtain ⟨rfl, rfl, rfl, rfl⟩ := H; have hcz17_0 : wc.cell? ⟨gb197, 0, none⟩ = some (.int .i64 0) := (blk_cell BK197.out 0).trans rfl; have hcz17_1 : wc.cell? ⟨gb197, 1, none⟩ = some (.int .i64 0) := (blk_cell BK197.out 1).trans rfl; have hcz17_2 : wc.cell? ⟨gb197, 2, none⟩ = some (.int .i64 0) := (blk_cell BK197.out 2).trans rfl; have hfz17_0 := blk_frozen BK197.out 0; have hfz17_1 := blk_frozen BK197.out 1; have hfz17_2 := blk_frozen BK197.out 2; go_wp2; refine bodyPost_ret (results_ct rfl _ _ gb197 26 #[.int .i64 0, .int .i64 0, .int .i64 0] (0, 0) _ rfl (by (with_reducible repeat first | apply bN | apply bD | apply bA); refine blk_put (cs := #[.int .i64 0, .int .i64 0, .int .i64 0]) ?_ 2 _ rfl; (with_reducible repeat first | apply bN | apply bD | apply bA); refine blk_put (cs := #[.int .i64 0, .int .i64 0, .int .i64 0]) ?_ 1 _ rfl; (with_reducible repeat first | apply bN | apply bD | apply bA); refine blk_put (cs := #[.int .i64 0, .int .i64 0, .int .i64 0]) ?_ 0 _ rfl; (with_reducible repeat first | apply bN | apply bD | apply bA); exact BK197.out) Tryz.underlying26 rfl (by kernel_rfl)) rfl ?_; exact ⟨by first | rfl | (simp [errW_none, errW_some] <;> rfl) | (simp [*, errW_none, errW_some] <;> rfl), eG HB.out⟩
   ·
    replace c16 := Bool.eq_false_iff.mpr c16; subst c16; replace H : (if 1 < (t198.length : Int) then ((tariff_number.f (rdOf ByteArray.empty t198 1)).bind fun bt205 => (if 3 < (t198.length : Int) then ((tariff_number.f (rdOf ByteArray.empty t198 3)).bind fun bt208 => (if 5 < (t198.length : Int) then ((tariff_number.f (rdOf ByteArray.empty t198 5)).bind fun bt211 => (if bt205.2 = true then (if bt208.2 = true then (some (bt205.1, bt208.1, bt211.1, bt211.2)) else (some (bt205.1, bt208.1, bt211.1, false))) else (some (bt205.1, bt208.1, bt211.1, false)))) else (none))) else (none))) else (none)) = some (r1, r2, r3, r4) := by rw [if_neg (show ¬ (false = true) by decide)] at H; exact H
    by_cases c18 : 1 < (t198.length : Int)
    ·
     rw [if_pos c18] at H; have c18b0 : decide (1 < (t198.length : Int)) = true := decide_eq_true c18; have c18b1 : decide (1 < t198.length) = true := decide_eq_true (by omega); clear c18; replace H := Option.bind_eq_some_iff.mp H; obtain ⟨⟨t205, t206⟩, A190, H⟩ := H; replace H : (if 3 < (t198.length : Int) then ((tariff_number.f (rdOf ByteArray.empty t198 3)).bind fun bt208 => (if 5 < (t198.length : Int) then ((tariff_number.f (rdOf ByteArray.empty t198 5)).bind fun bt211 => (if t206 = true then (if bt208.2 = true then (some (t205, bt208.1, bt211.1, bt211.2)) else (some (t205, bt208.1, bt211.1, false))) else (some (t205, bt208.1, bt211.1, false)))) else (none))) else (none)) = some (r1, r2, r3, r4) := H; have A19 := Aside0.mk A190; clear A190; by_cases c20 : 3 < (t198.length : Int)
     ·
      rw [if_pos c20] at H; have c20b0 : decide (3 < (t198.length : Int)) = true := decide_eq_true c20; have c20b1 : decide (3 < t198.length) = true := decide_eq_true (by omega); clear c20; replace H := Option.bind_eq_some_iff.mp H; obtain ⟨⟨t208, t209⟩, A210, H⟩ := H; replace H : (if 5 < (t198.length : Int) then ((tariff_number.f (rdOf ByteArray.empty t198 5)).bind fun bt211 => (if t206 = true then (if t209 = true then (some (t205, t208, bt211.1, bt211.2)) else (some (t205, t208, bt211.1, false))) else (some (t205, t208, bt211.1, false)))) else (none)) = some (r1, r2, r3, r4) := H; have A21 := Aside0.mk A210; clear A210; by_cases c22 : 5 < (t198.length : Int)
      ·
       rw [if_pos c22] at H; have c22b0 : decide (5 < (t198.length : Int)) = true := decide_eq_true c22; have c22b1 : decide (5 < t198.length) = true := decide_eq_true (by omega); clear c22; replace H := Option.bind_eq_some_iff.mp H; obtain ⟨⟨t211, t212⟩, A230, H⟩ := H; replace H : (if t206 = true then (if t209 = true then (some (t205, t208, t211, t212)) else (some (t205, t208, t211, false))) else (some (t205, t208, t211, false))) = some (r1, r2, r3, r4) := H; have A23 := Aside0.mk A230; clear A230; by_cases c24 : t206 = true
       ·
        subst c24; replace H : (if t209 = true then (some (t205, t208, t211, t212)) else (some (t205, t208, t211, false))) = some (r1, r2, r3, r4) := by rw [if_pos rfl] at H; exact H
        by_cases c25 : t209 = true
        ·
         subst c25; replace H : (some (t205, t208, t211, t212)) = some (r1, r2, r3, r4) := by rw [if_pos rfl] at H; exact H
         simp only [Option.some.injEq, Prod.mk.injEq] at H; obtain ⟨rfl, rfl, rfl, rfl⟩ := H; obtain ⟨Ao26, co26, eo26⟩ := Kd.R_slice HO_4.out; subst eo26; have p204 : 0 ≤ (1 : Int) := (by omega); have q204 : 1 < (t198.length : Int) := of_decide_eq_true (by first | (with_reducible assumption) | assumption); obtain ⟨ad204, e204, hx204_0⟩ := Kd.at_string (Kd.R_reads' HO_4.out).2.2 1 p204 q204; cases e204; (try simp only [show (1 : Int).toNat = 1 from rfl, Nat.reduceMul, Nat.reduceEqDiff, Go.Addr.add, ↓reduceIte] at hx204_0)
         have qi204 : (1 < t198.length) = True := eq_true (by omega); (try rw [show ((1 : Int)).toNat = 1 from rfl] at hx204_0)
         replace p204 := eq_true p204; replace q204 := eq_true q204; go_wp2_with (first | ((with_reducible refine gate_callee (f := 74) rfl ?_); refine goesL_ (some 39) rfl rfl Tryz.func74 (by kernel_rfl) rfl #[.string (rdOf ByteArray.empty t198 1)] rfl (by (try simp only [List.map_toArray, List.map_cons, List.map_nil]); first | done | rfl | (simp only [List.length_drop, List.length_take]; rfl)) ?_; (with_reducible refine (tariff_number.calls (rdOf ByteArray.empty t198 1) t205 true _ ?side1 A19.out).mono ?_); (case side1 => exact GI.below HG.out (eG HB.out)); rintro e w27 ⟨rfl, hb⟩; refine ⟨_, rfl, ?_⟩; have n0_ := Aside0.mk (Kd.R_below (by (with_reducible repeat (first | apply Kd.R_alloc | apply Kd.R_drewN | apply Kd.R_drew)); exact HO_4.out) hb); have n1_ := Aside0.mk (blk_below (bG BK197.out) hb); have n2_ := Aside0.mk (below_step (eG HB.out) hb); clear HO_4; clear BK197; clear HB; have HO_4 := n0_; have BK197 := n1_; have HB := n2_; clear n0_ n1_ n2_; (try clear hb); (try clear hb2); (try clear hk); (try clear hi); have p207 : 0 ≤ (3 : Int) := (by omega); have q207 : 3 < (t198.length : Int) := of_decide_eq_true (by first | (with_reducible assumption) | assumption); obtain ⟨ad207, e207, hx207_0⟩ := Kd.at_string (Kd.R_reads' HO_4.out).2.2 3 p207 q207; obtain rfl : ad204 = ad207 := (by injection e207); (try simp only [show (3 : Int).toNat = 3 from rfl, Nat.reduceMul, Nat.reduceEqDiff, Go.Addr.add, ↓reduceIte] at hx207_0); have qi207 : (3 < t198.length) = True := eq_true (by omega); (try rw [show ((3 : Int)).toNat = 3 from rfl] at hx207_0); replace p207 := eq_true p207; replace q207 := eq_true q207) | ((with_reducible refine gate_callee (f := 74) rfl ?_); refine goesL_ (some 46) rfl rfl Tryz.func74 (by kernel_rfl) rfl #[.string (rdOf ByteArray.empty t198 3)] rfl (by (try simp only [List.map_toArray, List.map_cons, List.map_nil]); first | done | rfl | (simp only [List.length_drop, List.length_take]; rfl)) ?_; (with_reducible refine (tariff_number.calls (rdOf ByteArray.empty t198 3) t208 true _ ?side1 A21.out).mono ?_); (case side1 => exact GI.below HG.out (eG HB.out)); rintro e w28 ⟨rfl, hb⟩; refine ⟨_, rfl, ?_⟩; have n0_ := Aside0.mk (Kd.R_below (by (with_reducible repeat (first | apply Kd.R_alloc | apply Kd.R_drewN | apply Kd.R_drew)); exact HO_4.out) hb); have n1_ := Aside0.mk (blk_below (bG BK197.out) hb); have n2_ := Aside0.mk (below_step (eG HB.out) hb); clear HO_4; clear BK197; clear HB; have HO_4 := n0_; have BK197 := n1_; have HB := n2_; clear n0_ n1_ n2_; (try clear hb); (try clear hb2); (try clear hk); (try clear hi); have p210 : 0 ≤ (5 : Int) := (by omega); have q210 : 5 < (t198.length : Int) := of_decide_eq_true (by first | (with_reducible assumption) | assumption); obtain ⟨ad210, e210, hx210_0⟩ := Kd.at_string (Kd.R_reads' HO_4.out).2.2 5 p210 q210; obtain rfl : ad204 = ad210 := (by injection e210); (try simp only [show (5 : Int).toNat = 5 from rfl, Nat.reduceMul, Nat.reduceEqDiff, Go.Addr.add, ↓reduceIte] at hx210_0); have qi210 : (5 < t198.length) = True := eq_true (by omega); (try rw [show ((5 : Int)).toNat = 5 from rfl] at hx210_0); replace p210 := eq_true p210; replace q210 := eq_true q210) | ((with_reducible refine gate_callee (f := 74) rfl ?_); refine goesL_ (some 53) rfl rfl Tryz.func74 (by kernel_rfl) rfl #[.string (rdOf ByteArray.empty t198 5)] rfl (by (try simp only [List.map_toArray, List.map_cons, List.map_nil]); first | done | rfl | (simp only [List.length_drop, List.length_take]; rfl)) ?_; (with_reducible refine (tariff_number.calls (rdOf ByteArray.empty t198 5) t211 t212 _ ?side1 A23.out).mono ?_); (case side1 => exact GI.below HG.out (eG HB.out)); rintro e w29 ⟨rfl, hb⟩; refine ⟨_, rfl, ?_⟩; have n0_ := Aside0.mk (Kd.R_below (by (with_reducible repeat (first | apply Kd.R_alloc | apply Kd.R_drewN | apply Kd.R_drew)); exact HO_4.out) hb); have n1_ := Aside0.mk (blk_below (bG BK197.out) hb); have n2_ := Aside0.mk (below_step (eG HB.out) hb); clear HO_4; clear BK197; clear HB; have HO_4 := n0_; have BK197 := n1_; have HB := n2_; clear n0_ n1_ n2_; (try clear hb); (try clear hb2); (try clear hk); (try clear hi); have hcz30_0 : w29.cell? ⟨gb197, 0, none⟩ = some (.int .i64 0) := (blk_cell BK197.out 0).trans rfl; have hcz30_1 : w29.cell? ⟨gb197, 1, none⟩ = some (.int .i64 0) := (blk_cell BK197.out 1).trans rfl; have hcz30_2 : w29.cell? ⟨gb197, 2, none⟩ = some (.int .i64 0) := (blk_cell BK197.out 2).trans rfl; have hfz30_0 := blk_frozen BK197.out 0; have hfz30_1 := blk_frozen BK197.out 1; have hfz30_2 := blk_frozen BK197.out 2))
         refine bodyPost_ret (results_ct rfl _ _ gb197 26 #[.int .i64 t205, .int .i64 t208, .int .i64 t211] (0, 0) _ rfl (by (with_reducible repeat first | apply bN | apply bD | apply bA); refine blk_put (cs := #[.int .i64 t205, .int .i64 t208, .int .i64 0]) ?_ 2 _ rfl; (with_reducible repeat first | apply bN | apply bD | apply bA); refine blk_put (cs := #[.int .i64 t205, .int .i64 0, .int .i64 0]) ?_ 1 _ rfl; (with_reducible repeat first | apply bN | apply bD | apply bA); refine blk_put (cs := #[.int .i64 0, .int .i64 0, .int .i64 0]) ?_ 0 _ rfl; (with_reducible repeat first | apply bN | apply bD | apply bA); exact BK197.out) Tryz.underlying26 rfl (by kernel_rfl)) rfl ?_; exact ⟨by first | rfl | (simp [errW_none, errW_some] <;> rfl) | (simp [*, errW_none, errW_some] <;> rfl), eG HB.out⟩
        ·
         replace c25 := Bool.eq_false_iff.mpr c25; subst c25; replace H : (some (t205, t208, t211, false)) = some (r1, r2, r3, r4) := by rw [if_neg (show ¬ (false = true) by decide)] at H; exact H
         simp only [Option.some.injEq, Prod.mk.injEq] at H; obtain ⟨rfl, rfl, rfl, rfl⟩ := H; obtain ⟨Ao31, co31, eo31⟩ := Kd.R_slice HO_4.out; subst eo31; have p204 : 0 ≤ (1 : Int) := (by omega); have q204 : 1 < (t198.length : Int) := of_decide_eq_true (by first | (with_reducible assumption) | assumption); obtain ⟨ad204, e204, hx204_0⟩ := Kd.at_string (Kd.R_reads' HO_4.out).2.2 1 p204 q204; cases e204; (try simp only [show (1 : Int).toNat = 1 from rfl, Nat.reduceMul, Nat.reduceEqDiff, Go.Addr.add, ↓reduceIte] at hx204_0)
         have qi204 : (1 < t198.length) = True := eq_true (by omega); (try rw [show ((1 : Int)).toNat = 1 from rfl] at hx204_0)
         replace p204 := eq_true p204; replace q204 := eq_true q204; go_wp2_with (first | ((with_reducible refine gate_callee (f := 74) rfl ?_); refine goesL_ (some 39) rfl rfl Tryz.func74 (by kernel_rfl) rfl #[.string (rdOf ByteArray.empty t198 1)] rfl (by (try simp only [List.map_toArray, List.map_cons, List.map_nil]); first | done | rfl | (simp only [List.length_drop, List.length_take]; rfl)) ?_; (with_reducible refine (tariff_number.calls (rdOf ByteArray.empty t198 1) t205 true _ ?side1 A19.out).mono ?_); (case side1 => exact GI.below HG.out (eG HB.out)); rintro e w32 ⟨rfl, hb⟩; refine ⟨_, rfl, ?_⟩; have n0_ := Aside0.mk (Kd.R_below (by (with_reducible repeat (first | apply Kd.R_alloc | apply Kd.R_drewN | apply Kd.R_drew)); exact HO_4.out) hb); have n1_ := Aside0.mk (blk_below (bG BK197.out) hb); have n2_ := Aside0.mk (below_step (eG HB.out) hb); clear HO_4; clear BK197; clear HB; have HO_4 := n0_; have BK197 := n1_; have HB := n2_; clear n0_ n1_ n2_; (try clear hb); (try clear hb2); (try clear hk); (try clear hi); have p207 : 0 ≤ (3 : Int) := (by omega); have q207 : 3 < (t198.length : Int) := of_decide_eq_true (by first | (with_reducible assumption) | assumption); obtain ⟨ad207, e207, hx207_0⟩ := Kd.at_string (Kd.R_reads' HO_4.out).2.2 3 p207 q207; obtain rfl : ad204 = ad207 := (by injection e207); (try simp only [show (3 : Int).toNat = 3 from rfl, Nat.reduceMul, Nat.reduceEqDiff, Go.Addr.add, ↓reduceIte] at hx207_0); have qi207 : (3 < t198.length) = True := eq_true (by omega); (try rw [show ((3 : Int)).toNat = 3 from rfl] at hx207_0); replace p207 := eq_true p207; replace q207 := eq_true q207) | ((with_reducible refine gate_callee (f := 74) rfl ?_); refine goesL_ (some 46) rfl rfl Tryz.func74 (by kernel_rfl) rfl #[.string (rdOf ByteArray.empty t198 3)] rfl (by (try simp only [List.map_toArray, List.map_cons, List.map_nil]); first | done | rfl | (simp only [List.length_drop, List.length_take]; rfl)) ?_; (with_reducible refine (tariff_number.calls (rdOf ByteArray.empty t198 3) t208 false _ ?side1 A21.out).mono ?_); (case side1 => exact GI.below HG.out (eG HB.out)); rintro e w33 ⟨rfl, hb⟩; refine ⟨_, rfl, ?_⟩; have n0_ := Aside0.mk (Kd.R_below (by (with_reducible repeat (first | apply Kd.R_alloc | apply Kd.R_drewN | apply Kd.R_drew)); exact HO_4.out) hb); have n1_ := Aside0.mk (blk_below (bG BK197.out) hb); have n2_ := Aside0.mk (below_step (eG HB.out) hb); clear HO_4; clear BK197; clear HB; have HO_4 := n0_; have BK197 := n1_; have HB := n2_; clear n0_ n1_ n2_; (try clear hb); (try clear hb2); (try clear hk); (try clear hi); have p210 : 0 ≤ (5 : Int) := (by omega); have q210 : 5 < (t198.length : Int) := of_decide_eq_true (by first | (with_reducible assumption) | assumption); obtain ⟨ad210, e210, hx210_0⟩ := Kd.at_string (Kd.R_reads' HO_4.out).2.2 5 p210 q210; obtain rfl : ad204 = ad210 := (by injection e210); (try simp only [show (5 : Int).toNat = 5 from rfl, Nat.reduceMul, Nat.reduceEqDiff, Go.Addr.add, ↓reduceIte] at hx210_0); have qi210 : (5 < t198.length) = True := eq_true (by omega); (try rw [show ((5 : Int)).toNat = 5 from rfl] at hx210_0); replace p210 := eq_true p210; replace q210 := eq_true q210) | ((with_reducible refine gate_callee (f := 74) rfl ?_); refine goesL_ (some 53) rfl rfl Tryz.func74 (by kernel_rfl) rfl #[.string (rdOf ByteArray.empty t198 5)] rfl (by (try simp only [List.map_toArray, List.map_cons, List.map_nil]); first | done | rfl | (simp only [List.length_drop, List.length_take]; rfl)) ?_; (with_reducible refine (tariff_number.calls (rdOf ByteArray.empty t198 5) t211 t212 _ ?side1 A23.out).mono ?_); (case side1 => exact GI.below HG.out (eG HB.out)); rintro e w34 ⟨rfl, hb⟩; refine ⟨_, rfl, ?_⟩; have n0_ := Aside0.mk (Kd.R_below (by (with_reducible repeat (first | apply Kd.R_alloc | apply Kd.R_drewN | apply Kd.R_drew)); exact HO_4.out) hb); have n1_ := Aside0.mk (blk_below (bG BK197.out) hb); have n2_ := Aside0.mk (below_step (eG HB.out) hb); clear HO_4; clear BK197; clear HB; have HO_4 := n0_; have BK197 := n1_; have HB := n2_; clear n0_ n1_ n2_; (try clear hb); (try clear hb2); (try clear hk); (try clear hi); have hcz35_0 : w34.cell? ⟨gb197, 0, none⟩ = some (.int .i64 0) := (blk_cell BK197.out 0).trans rfl; have hcz35_1 : w34.cell? ⟨gb197, 1, none⟩ = some (.int .i64 0) := (blk_cell BK197.out 1).trans rfl; have hcz35_2 : w34.cell? ⟨gb197, 2, none⟩ = some (.int .i64 0) := (blk_cell BK197.out 2).trans rfl; have hfz35_0 := blk_frozen BK197.out 0; have hfz35_1 := blk_frozen BK197.out 1; have hfz35_2 := blk_frozen BK197.out 2))
         refine bodyPost_ret (results_ct rfl _ _ gb197 26 #[.int .i64 t205, .int .i64 t208, .int .i64 t211] (0, 0) _ rfl (by (with_reducible repeat first | apply bN | apply bD | apply bA); refine blk_put (cs := #[.int .i64 t205, .int .i64 t208, .int .i64 0]) ?_ 2 _ rfl; (with_reducible repeat first | apply bN | apply bD | apply bA); refine blk_put (cs := #[.int .i64 t205, .int .i64 0, .int .i64 0]) ?_ 1 _ rfl; (with_reducible repeat first | apply bN | apply bD | apply bA); refine blk_put (cs := #[.int .i64 0, .int .i64 0, .int .i64 0]) ?_ 0 _ rfl; (with_reducible repeat first | apply bN | apply bD | apply bA); exact BK197.out) Tryz.underlying26 rfl (by kernel_rfl)) rfl ?_; exact ⟨by first | rfl | (simp [errW_none, errW_some] <;> rfl) | (simp [*, errW_none, errW_some] <;> rfl), eG HB.out⟩
       ·
        replace c24 := Bool.eq_false_iff.mpr c24; subst c24; replace H : (some (t205, t208, t211, false)) = some (r1, r2, r3, r4) := by rw [if_neg (show ¬ (false = true) by decide)] at H; exact H
        simp only [Option.some.injEq, Prod.mk.injEq] at H; obtain ⟨rfl, rfl, rfl, rfl⟩ := H; obtain ⟨Ao36, co36, eo36⟩ := Kd.R_slice HO_4.out; subst eo36; have p204 : 0 ≤ (1 : Int) := (by omega); have q204 : 1 < (t198.length : Int) := of_decide_eq_true (by first | (with_reducible assumption) | assumption); obtain ⟨ad204, e204, hx204_0⟩ := Kd.at_string (Kd.R_reads' HO_4.out).2.2 1 p204 q204; cases e204; (try simp only [show (1 : Int).toNat = 1 from rfl, Nat.reduceMul, Nat.reduceEqDiff, Go.Addr.add, ↓reduceIte] at hx204_0)
        have qi204 : (1 < t198.length) = True := eq_true (by omega); (try rw [show ((1 : Int)).toNat = 1 from rfl] at hx204_0)
        replace p204 := eq_true p204; replace q204 := eq_true q204; go_wp2_with (first | ((with_reducible refine gate_callee (f := 74) rfl ?_); refine goesL_ (some 39) rfl rfl Tryz.func74 (by kernel_rfl) rfl #[.string (rdOf ByteArray.empty t198 1)] rfl (by (try simp only [List.map_toArray, List.map_cons, List.map_nil]); first | done | rfl | (simp only [List.length_drop, List.length_take]; rfl)) ?_; (with_reducible refine (tariff_number.calls (rdOf ByteArray.empty t198 1) t205 false _ ?side1 A19.out).mono ?_); (case side1 => exact GI.below HG.out (eG HB.out)); rintro e w37 ⟨rfl, hb⟩; refine ⟨_, rfl, ?_⟩; have n0_ := Aside0.mk (Kd.R_below (by (with_reducible repeat (first | apply Kd.R_alloc | apply Kd.R_drewN | apply Kd.R_drew)); exact HO_4.out) hb); have n1_ := Aside0.mk (blk_below (bG BK197.out) hb); have n2_ := Aside0.mk (below_step (eG HB.out) hb); clear HO_4; clear BK197; clear HB; have HO_4 := n0_; have BK197 := n1_; have HB := n2_; clear n0_ n1_ n2_; (try clear hb); (try clear hb2); (try clear hk); (try clear hi); have p207 : 0 ≤ (3 : Int) := (by omega); have q207 : 3 < (t198.length : Int) := of_decide_eq_true (by first | (with_reducible assumption) | assumption); obtain ⟨ad207, e207, hx207_0⟩ := Kd.at_string (Kd.R_reads' HO_4.out).2.2 3 p207 q207; obtain rfl : ad204 = ad207 := (by injection e207); (try simp only [show (3 : Int).toNat = 3 from rfl, Nat.reduceMul, Nat.reduceEqDiff, Go.Addr.add, ↓reduceIte] at hx207_0); have qi207 : (3 < t198.length) = True := eq_true (by omega); (try rw [show ((3 : Int)).toNat = 3 from rfl] at hx207_0); replace p207 := eq_true p207; replace q207 := eq_true q207) | ((with_reducible refine gate_callee (f := 74) rfl ?_); refine goesL_ (some 46) rfl rfl Tryz.func74 (by kernel_rfl) rfl #[.string (rdOf ByteArray.empty t198 3)] rfl (by (try simp only [List.map_toArray, List.map_cons, List.map_nil]); first | done | rfl | (simp only [List.length_drop, List.length_take]; rfl)) ?_; (with_reducible refine (tariff_number.calls (rdOf ByteArray.empty t198 3) t208 t209 _ ?side1 A21.out).mono ?_); (case side1 => exact GI.below HG.out (eG HB.out)); rintro e w38 ⟨rfl, hb⟩; refine ⟨_, rfl, ?_⟩; have n0_ := Aside0.mk (Kd.R_below (by (with_reducible repeat (first | apply Kd.R_alloc | apply Kd.R_drewN | apply Kd.R_drew)); exact HO_4.out) hb); have n1_ := Aside0.mk (blk_below (bG BK197.out) hb); have n2_ := Aside0.mk (below_step (eG HB.out) hb); clear HO_4; clear BK197; clear HB; have HO_4 := n0_; have BK197 := n1_; have HB := n2_; clear n0_ n1_ n2_; (try clear hb); (try clear hb2); (try clear hk); (try clear hi); have p210 : 0 ≤ (5 : Int) := (by omega); have q210 : 5 < (t198.length : Int) := of_decide_eq_true (by first | (with_reducible assumption) | assumption); obtain ⟨ad210, e210, hx210_0⟩ := Kd.at_string (Kd.R_reads' HO_4.out).2.2 5 p210 q210; obtain rfl : ad204 = ad210 := (by injection e210); (try simp only [show (5 : Int).toNat = 5 from rfl, Nat.reduceMul, Nat.reduceEqDiff, Go.Addr.add, ↓reduceIte] at hx210_0); have qi210 : (5 < t198.length) = True := eq_true (by omega); (try rw [show ((5 : Int)).toNat = 5 from rfl] at hx210_0); replace p210 := eq_true p210; replace q210 := eq_true q210) | ((with_reducible refine gate_callee (f := 74) rfl ?_); refine goesL_ (some 53) rfl rfl Tryz.func74 (by kernel_rfl) rfl #[.string (rdOf ByteArray.empty t198 5)] rfl (by (try simp only [List.map_toArray, List.map_cons, List.map_nil]); first | done | rfl | (simp only [List.length_drop, List.length_take]; rfl)) ?_; (with_reducible refine (tariff_number.calls (rdOf ByteArray.empty t198 5) t211 t212 _ ?side1 A23.out).mono ?_); (case side1 => exact GI.below HG.out (eG HB.out)); rintro e w39 ⟨rfl, hb⟩; refine ⟨_, rfl, ?_⟩; have n0_ := Aside0.mk (Kd.R_below (by (with_reducible repeat (first | apply Kd.R_alloc | apply Kd.R_drewN | apply Kd.R_drew)); exact HO_4.out) hb); have n1_ := Aside0.mk (blk_below (bG BK197.out) hb); have n2_ := Aside0.mk (below_step (eG HB.out) hb); clear HO_4; clear BK197; clear HB; have HO_4 := n0_; have BK197 := n1_; have HB := n2_; clear n0_ n1_ n2_; (try clear hb); (try clear hb2); (try clear hk); (try clear hi); have hcz40_0 : w39.cell? ⟨gb197, 0, none⟩ = some (.int .i64 0) := (blk_cell BK197.out 0).trans rfl; have hcz40_1 : w39.cell? ⟨gb197, 1, none⟩ = some (.int .i64 0) := (blk_cell BK197.out 1).trans rfl; have hcz40_2 : w39.cell? ⟨gb197, 2, none⟩ = some (.int .i64 0) := (blk_cell BK197.out 2).trans rfl; have hfz40_0 := blk_frozen BK197.out 0; have hfz40_1 := blk_frozen BK197.out 1; have hfz40_2 := blk_frozen BK197.out 2))
        refine bodyPost_ret (results_ct rfl _ _ gb197 26 #[.int .i64 t205, .int .i64 t208, .int .i64 t211] (0, 0) _ rfl (by (with_reducible repeat first | apply bN | apply bD | apply bA); refine blk_put (cs := #[.int .i64 t205, .int .i64 t208, .int .i64 0]) ?_ 2 _ rfl; (with_reducible repeat first | apply bN | apply bD | apply bA); refine blk_put (cs := #[.int .i64 t205, .int .i64 0, .int .i64 0]) ?_ 1 _ rfl; (with_reducible repeat first | apply bN | apply bD | apply bA); refine blk_put (cs := #[.int .i64 0, .int .i64 0, .int .i64 0]) ?_ 0 _ rfl; (with_reducible repeat first | apply bN | apply bD | apply bA); exact BK197.out) Tryz.underlying26 rfl (by kernel_rfl)) rfl ?_; exact ⟨by first | rfl | (simp [errW_none, errW_some] <;> rfl) | (simp [*, errW_none, errW_some] <;> rfl), eG HB.out⟩
      · rw [if_neg c22] at H; exact absurd H (by simp)
     · rw [if_neg c20] at H; exact absurd H (by simp)
    · rw [if_neg c18] at H; exact absurd H (by simp)
end Go.Proofs.YtholbmidciapdaaGreatDoor.Pr
namespace Go.Proofs.YtholbmidciapdaaGreatDoor.X
open Go Go.RowKit Go.Lib Go.Proofs Go.Shelf
section
variable {F : Fence} {n : Nat} {P : Program}
/-- What abides the turn of block b, and new blocks. -/
def AbBox {β : Type} (b : Nat) (J : β → World → Prop) : Prop := ∀ s W W', J s W → W.grownBy W' (some b) → J s W'
/-- What abides the turn of block b, and of whatever is no cells and lies at or beyond B. -/
def AbFrom {β : Type} (B b : Nat) (I : β → World → Prop) : Prop :=
  ∀ s W W' row, I s W → W.grownBy W' row → (∀ r, row = some r → r = b ∨ (B ≤ r ∧ ∃ o : Obj, W.heap[r]? = some o ∧ o.isCells = false)) → I s W'
/-- An iterator's contract: it hands out L, in its order; a round that goes on leaves its box as it was. -/
def SeqBox {α : Type} (F : Fence) (n : Nat) (P : Program) (g : Nat) (lb : Array Value) (encs : α → Array Value) (b : Nat) (G : World → Prop) (L : List α) (w : World) : Prop :=
  ∀ (l : Nat) (J Jx : List α → World → Prop) (W : World), Below w.heap.size w W → (∀ pre W1, J pre W1 → G W1) → AbBox b J → AbBox b Jx →
    (∀ pre x W1, J pre W1 → pre ++ [x] <+: L → YieldAt F (n - 1) P l (encs x) W1 fun e W' =>
      (e = .returned (.bool true) ∧ J (pre ++ [x]) W' ∧ W'.heap[b]? = W1.heap[b]?) ∨ (e = .returned (.bool false) ∧ Jx (pre ++ [x]) W')) →
    J [] W →
    CallsIn F n P g (#[.func (.yield l) #[] #[]] ++ lb) W fun e W' => (∃ v, e = .returned v) ∧ (J L W' ∨ (∃ pre, pre <+: L ∧ Jx pre W'))
/-- A loop's record in its three states. -/
def recAt (fn : FuncId) (tmps : Array Value) (ps : Array Tmp) (assign body : Code) (D : Nat) (st : LoopState) (pe : Option Code) : Loop := { state := st, pending := pe, fn, tmps, params := ps, assign, body, defers := D }
/-- How a round may be left. -/
def boxPost {α : Type} (B b : Nat) (I : List α → World → Prop) (Ix : List α → World → Prop) (xs : List α) (W : World) : Exit → Act → World → Prop
  | .normal, _, W' => KeepsFrom B W W' ∧ W'.heap[b]? = W.heap[b]? ∧ I xs W'
  | .ret, _, W' => KeepsFrom B W W' ∧ Ix xs W'
  | _, _, _ => False
/-- The statement, where a round goes on or returns from the function. -/
theorem wpIn_rangeFunc_box {α : Type} {g : Operand} {ps : Array Tmp} {assign body : Code} {Q : Exit → Act → World → Prop} {a : Act} {w : World}
    (hro : F.round = none) (h1 : 1 ≤ n) {gf : Nat} {lb : Array Value} (hg : a.eval g = .func (.func gf) #[] lb) (hFg : F.fn gf) (eg : ∀ args w, (callFunc gf args).run P w = .ok (.enter gf args) w)
    {encs : α → Array Value} {b : Nat} {G : World → Prop} {L : List α} {w0 : World} (hseq : SeqBox F (n - 1) P gf lb encs b G L w0) (hbw : b < w.heap.size)
    (hb0 : Below w0.heap.size w0 w) (hps : ∀ x, (encs x).size = ps.size)
    (I Ix : List α → World → Prop) (hIG : ∀ pre W, I pre W → G W) (hI : AbFrom w.heap.size b I) (hIx : AbFrom w.heap.size b Ix) (h0 : I [] w) (a₁ : α → Act)
    (hassign : ∀ (l : Nat) (x : α) (W : World) (K : Act → World → Prop), K (a₁ x) W →
      assign.wpIn (F.inRound l) (n - 1 - 1) P (Exit.then K (fun _ _ _ => False)) { tmps := (ps.zip (encs x)).foldl (fun t (p, v) => t.setIfInBounds p v) a.tmps, defers := [] } W)
    (hbody : ∀ (l : Nat) (pre : List α) (x : α) (W : World), I pre W → pre ++ [x] <+: L → body.wpIn (F.inRound l) (n - 1 - 1) P (boxPost w.heap.size b I Ix (pre ++ [x]) W) (a₁ x) W)
    (hdone : ∀ (W : World), I L W → W.heap[w.heap.size]? = some (.deferred (some [])) → Q .normal { a with defers := { target := .collected w.heap.size, args := #[] } :: a.defers } W)
    (hstop : ∀ (pre : List α) (W : World), pre <+: L → Ix pre W → W.heap[w.heap.size]? = some (.deferred (some [])) → Code.ret.wpIn F n P Q { a with defers := { target := .collected w.heap.size, args := #[] } :: a.defers } W) :
    (Code.rangeFunc g ps assign body).wpIn F n P Q a w := by
  refine wpIn_rangeFunc fun fn hfn => ?_
  rw [hro]
  let D := w.heap.size
  let rc := recAt fn a.tmps ps assign body D
  let W1 := (w.alloc (.deferred (some []))).alloc (.loop (rc .ready none))
  have s1 : (w.alloc (.deferred (some []))).heap.size = D + 1 := World.size_alloc ..
  have dW1 : W1.heap[D]? = some (.deferred (some [])) := (Below.heap_alloc _ _ _ (by rw [s1]; omega)).trans (World.alloc_heap_new w _)
  have lW1 : W1.heap[D + 1]? = some (.loop (rc .ready none)) := by have := World.alloc_heap_new (w.alloc (.deferred (some []))) (.loop (rc .ready none)); rwa [s1] at this
  have gW1 : w.grownBy W1 none := ⟨rfl, rfl, rfl, by show w.heap.size ≤ W1.heap.size; have := (Array.getElem?_eq_some_iff.1 lW1).1; omega, fun k hk _ => ((Below.heap_alloc _ _ _ (by rw [s1]; omega)).trans (Below.heap_alloc _ _ _ hk))⟩
  have bk : ∀ (st : LoopState) (pe : Option Code) {A B : World}, A.heap[D + 1]? = some (.loop (rc st pe)) → A.heap[D]? = some (.deferred (some [])) → A.grownBy B (some b) → B.heap[D + 1]? = some (.loop (rc st pe)) ∧ B.heap[D]? = some (.deferred (some [])) :=
    fun st pe A B h2 h3 hg2 => ⟨(hg2.block _ (Array.getElem?_eq_some_iff.1 h2).1 (fun e => by have := Option.some.inj e; omega)).trans h2, (hg2.block _ (Array.getElem?_eq_some_iff.1 h3).1 (fun e => by have := Option.some.inj e; omega)).trans h3⟩
  have turn : ∀ {J : List α → World → Prop}, AbFrom D b J → ∀ {s A} (o o' : Obj), A.heap[D + 1]? = some o → o.isCells = false → J s A → J s (A.putObj (D + 1) o') := fun hJ s A o o' h2 h3 hj =>
    hJ s A _ (some (D + 1)) hj (grownBy_putObj' A (D + 1) o') (fun r e => .inr ⟨by have := Option.some.inj e; omega, o, by have := Option.some.inj e; subst this; exact h2, h3⟩)
  have one : ∀ {J : List α → World → Prop}, AbFrom D b J → AbBox b J := fun hJ s A B hj hg2 => hJ s A B (some b) hj hg2 (fun r e => .inl (Option.some.inj e).symm)
  refine ⟨D + 1, [{ target := .collected D, args := #[] }], W1, { target := .fn (.func gf) lb, args := #[.func (.yield (D + 1)) #[] #[]] }, W1, gf, #[.func (.yield (D + 1)) #[] #[]] ++ lb, W1,
    run_enterLoop_outer _ _ _ _ _, ?_, ?_, ?_, fun _ => h1, ?_⟩
  · simp only [resolve, hg]
    simp [go_sem]
  · intro f' hf'
    simp [Target.leads] at hf'
    exact hf' ▸ hFg
  · simp [invoke, go_sem, eg]
  refine (hseq (D + 1) (fun pre W => I pre W ∧ W.heap[D + 1]? = some (.loop (rc .ready none)) ∧ W.heap[D]? = some (.deferred (some [])))
    (fun pre W => Ix pre W ∧ W.heap[D + 1]? = some (.loop (rc .done (some .ret))) ∧ W.heap[D]? = some (.deferred (some []))) W1 ?_ (fun pre W h => hIG pre W h.1) ?_ ?_ ?_ ⟨hI [] w W1 none h0 gW1 (fun r e => by cases e), lW1, dW1⟩).mono ?_
  · exact hb0.trans ⟨gW1.os, gW1.tape, gW1.output, gW1.size, fun k hk => gW1.block k (Nat.lt_of_lt_of_le hk hb0.size) (by simp)⟩
  · exact fun s A B hs hg2 => ⟨one hI s A B hs.1 hg2, bk _ _ hs.2.1 hs.2.2 hg2⟩
  · exact fun s A B hs hg2 => ⟨one hIx s A B hs.1 hg2, bk _ _ hs.2.1 hs.2.2 hg2⟩
  · rintro pre x W ⟨hi, hl, hd⟩ hlen
    have hlt := (Array.getElem?_eq_some_iff.1 hl).1
    refine ⟨fn, _, assign, body, run_yield (P := P) (args := encs x) hl (hps x), roundIn_of_wpIn hfn (hassign _ x W _ ⟨_, run_beginRound hl rfl, ?_⟩)⟩
    have hl2 : (W.putObj (D + 1) (.loop (rc .busy none))).heap[D + 1]? = some (.loop (rc .busy none)) := World.putObj_heap_same hlt
    have hd2 : (W.putObj (D + 1) (.loop (rc .busy none))).heap[D]? = some (.deferred (some [])) := (World.putObj_heap_other (by omega)).trans hd
    have hb2 : (W.putObj (D + 1) (.loop (rc .busy none))).heap[b]? = W.heap[b]? := World.putObj_heap_other (by omega)
    refine wpIn_mono (hbody _ pre x _ (turn hI _ _ hl rfl hi) hlen) ?_
    rintro e a3 W3 hp
    cases e with
    | normal =>
      obtain ⟨hk, hbx, hi3⟩ := hp
      have hl3 := hk.same _ _ (by omega) hl2 rfl
      have hd3 := hk.same _ _ (Nat.le_refl _) hd2 rfl
      exact ⟨_, _, run_endRound none hl3, .inl ⟨rfl, ⟨turn hI _ _ hl3 rfl hi3, World.putObj_heap_same (Array.getElem?_eq_some_iff.1 hl3).1, (World.putObj_heap_other (by omega)).trans hd3⟩, ((World.putObj_heap_other (by omega)).trans hbx).trans hb2⟩⟩
    | ret =>
      obtain ⟨hk, hi3⟩ := hp
      have hl3 := hk.same _ _ (by omega) hl2 rfl
      have hd3 := hk.same _ _ (Nat.le_refl _) hd2 rfl
      exact ⟨_, _, run_endRound (some .ret) hl3, .inr ⟨rfl, turn hIx _ _ hl3 rfl hi3, World.putObj_heap_same (Array.getElem?_eq_some_iff.1 hl3).1, (World.putObj_heap_other (by omega)).trans hd3⟩⟩
    | exit id => exact hp.elim
    | goto t => exact hp.elim
    | panic ch => exact hp.elim
    | outgrown => exact hp.elim
  · rintro e W2 ⟨⟨v, rfl⟩, (⟨hi, hl, hd⟩ | ⟨pre, hSp, hi, hl, hd⟩)⟩
    · exact ⟨none, _, run_endLoop hl (by simp [rc, recAt]), hdone _ (turn hI _ _ hl rfl hi) ((World.putObj_heap_other (by omega)).trans hd)⟩
    · exact ⟨some .ret, _, run_endLoop hl (by simp [rc, recAt]), hstop pre _ hSp (turn hIx _ _ hl rfl hi) ((World.putObj_heap_other (by omega)).trans hd)⟩
end
end Go.Proofs.YtholbmidciapdaaGreatDoor.X
namespace Go.Proofs.YtholbmidciapdaaGreatDoor.X
open Go Go.RowKit Go.Lib Go.Proofs Go.Shelf Go.Proofs.YtholbmidciapdaaGreatDoor.TX Go.Proofs.YtholbmidciapdaaGreatDoorW.PrintWords Go.Proofs.YtholbmidciapdaaGreatDoorW.PrintLast Go.Proofs.YtholbmidciapdaaGreatDoorW.PrintMore
attribute [local go_sem] Oper.semAt_some
/-- The lines of a text, and whether each has its line feed. -/
def lns (s : ByteArray) : List (ByteArray × Bool) := if h : s.size = 0 then [] else (⟨(cut1 10 s.data.toList).1.toArray⟩, (cut1 10 s.data.toList).2.2) :: lns ⟨(cut1 10 s.data.toList).2.1.toArray⟩
termination_by s.size
decreasing_by
  have h1 : s.data.toList.length = s.size := Array.length_toList
  show ((cut1 10 s.data.toList).2.1.toArray).size < s.size
  rw [List.size_toArray, ← h1]
  cases hb : (cut1 10 s.data.toList).2.2 with
  | true => exact cut1_len 10 _ hb
  | false => rw [(cut1_no 10 _ hb).2]; show 0 < _; omega
theorem lns_nil {s : ByteArray} (h : s.size = 0) : lns s = [] := by rw [lns, dif_pos h]
theorem lns_cons {s : ByteArray} (h : ¬ s.size = 0) : lns s = (⟨(cut1 10 s.data.toList).1.toArray⟩, (cut1 10 s.data.toList).2.2) :: lns ⟨(cut1 10 s.data.toList).2.1.toArray⟩ := by rw [lns, dif_neg h]
theorem rest_lt {s : ByteArray} (h : ¬ s.size = 0) : (⟨(cut1 10 s.data.toList).2.1.toArray⟩ : ByteArray).size < s.size := by
  have h1 : s.data.toList.length = s.size := Array.length_toList
  show ((cut1 10 s.data.toList).2.1.toArray).size < s.size
  rw [List.size_toArray, ← h1]
  cases hb : (cut1 10 s.data.toList).2.2 with
  | true => exact cut1_len 10 _ hb
  | false => rw [(cut1_no 10 _ hb).2]; show 0 < _; omega
def lencs (x : ByteArray × Bool) : Array Value := #[.string x.1, .bool x.2]
/-- What is left, read off the world. -/
def leftB (b : Nat) (W : World) : Nat := match W.cell? ⟨b, 0, none⟩ with
  | some (.string s) => s.size
  | _ => 0
set_option maxRecDepth 100000 in
set_option maxHeartbeats 2000000 in
theorem lines1_in (l b : Nat) (L : List (ByteArray × Bool)) (J Jx : List (ByteArray × Bool) → World → Prop) (text : ByteArray) (hs : text.size < 4294967281) (hL : lns text = L) (W : World) (hGI : ∀ pre W, J pre W → GI W)
    (hJ : AbBox b J) (hJx : AbBox b Jx) (hbx : Boxed W b 9 (.string text))
    (hY : ∀ pre x W1, J pre W1 → pre ++ [x] <+: L → YieldAt Fence.wide (4 - 1) Tryz.prog l (lencs x) W1 fun e W' =>
      (e = .returned (.bool true) ∧ J (pre ++ [x]) W' ∧ W'.heap[b]? = W1.heap[b]?) ∨ (e = .returned (.bool false) ∧ Jx (pre ++ [x]) W'))
    (h0 : J [] W) :
    CallsIn Fence.wide 4 Tryz.prog 70 #[.func (.yield l) #[] #[], .pointer (some ⟨b, 0, none⟩)] W fun e W' => (∃ v, e = .returned v) ∧ (J L W' ∨ (∃ pre, pre <+: L ∧ Jx pre W')) := by
  refine callsIn_of_wp Tryz.func70 rfl trivial ?_ rfl
  simp only [Tryz.ntmps70, List.size_toArray, List.length_cons, List.length_nil, Nat.reduceAdd, Nat.reduceSub, Array.replicate_succ, Array.replicate_zero, List.push_toArray, List.append_toArray, List.nil_append, List.cons_append]
  gi_wp2
  gi_loopw [] (fun wr => ∃ (pre rest : List (ByteArray × Bool)) (s : ByteArray), s.size < 4294967281 ∧ Boxed wr b 9 (.string s) ∧ lns s = rest ∧ L = pre ++ rest ∧ J pre wr)
    (fun wr => leftB b wr)
  case atStart =>
    exact ⟨[], L, text, hs, hbx, hL, rfl, h0⟩
  case round =>
    obtain ⟨pre, rest, s, hsz, hbw, hr, hx, hJs⟩ := hrel
    have hc := hbw.cell
    have hf := hbw.frozen
    have e1 : s.data.toList.length = s.size := Array.length_toList
    by_cases hz : s.size = 0
    · have tE : s.toList.isEmpty = true := by rw [ByteArray.toList_eq, show s.data.toList = [] from List.eq_nil_of_length_eq_zero (by omega)]; rfl
      rw [lns_nil hz] at hr
      subst hr
      gi_wp2
      go_end0
      exact ⟨⟨_, rfl⟩, .inl (by rw [hx, List.append_nil]; exact hJs)⟩
    · have tE : s.toList.isEmpty = false := by
        rw [ByteArray.toList_eq]
        cases hd : s.data.toList with
        | nil => rw [hd] at e1; exact absurd e1.symm hz
        | cons a t => rfl
      rw [lns_cons hz] at hr
      have hcut : strings_Cut.f s ⟨#[10]⟩ = some (⟨(cut1 10 s.data.toList).1.toArray⟩, ⟨(cut1 10 s.data.toList).2.1.toArray⟩, (cut1 10 s.data.toList).2.2) := by
        unfold strings_Cut.f
        rw [if_pos hsz]
        have e : Lib.cut s.data.toList (⟨#[10]⟩ : ByteArray).data.toList = cut1 10 s.data.toList := cut_eq 10 s.data.toList
        rw [e]
      have hrl := rest_lt hz
      generalize (⟨(cut1 10 s.data.toList).1.toArray⟩ : ByteArray) = line at hcut hr
      generalize (⟨(cut1 10 s.data.toList).2.1.toArray⟩ : ByteArray) = left at hcut hr hrl
      generalize (cut1 10 s.data.toList).2.2 = ok at hcut hr
      have HY := hY pre (line, ok)
      have hpre : pre ++ [(line, ok)] <+: L := ⟨lns left, by rw [hx, ← hr]; simp⟩
      gi_wp2_with (refine ⟨trivial, ?_⟩; gi_at_call 71; refine (callsIn_wide.2 (strings_Cut.calls s ⟨#[10]⟩ line left ok wr (hGI pre wr hJs) hcut)).mono ?_; rintro e w1 ⟨rfl, hb1⟩; have hg1 : wr.grownBy w1 (some b) := ⟨hb1.os, hb1.tape, hb1.output, hb1.size, fun k hk _ => hb1.block k hk⟩; have hJ1 := hJ pre wr w1 hJs hg1; have hb1w : Boxed w1 b 9 (.string s) := (hb1.block b hbw.lt).trans hbw; obtain ⟨fn, tmps, assign, body, hy, hR⟩ := HY w1 hJ1 hpre; dsimp only [lencs] at hy)
      refine hR.mono ?_
      rintro e W3 (⟨rfl, hJ3, hk3⟩ | ⟨rfl, hJx3⟩)
      · have hb3 : Boxed W3 b 9 (.string s) := hk3.trans hb1w
        have hc3 := hb3.cell
        have hf3 := hb3.frozen
        gi_wp2
        go_roundw
        case rel => exact ⟨pre ++ [(line, ok)], lns left, left, by omega, hb3.set _, rfl, by rw [hx, ← hr]; simp, hJ _ _ _ hJ3 (grownBy_setCell' W3 b _)⟩
        case measure =>
          have m1 : leftB b (W3.setCell ⟨b, 0, none⟩ (.string left)) = left.size := by unfold leftB; rw [(hb3.set (.string left)).cell]
          have m2 : leftB b wr = s.size := by unfold leftB; rw [hc]
          rw [m1, m2]
          exact hrl
      · gi_wp2
        refine bodyPost_ret (results_none rfl _ _ _) rfl ?_
        exact ⟨⟨_, rfl⟩, .inr ⟨pre ++ [(line, ok)], hpre, hJx3⟩⟩
/-- What 'lines' hands back captures a new box. -/
theorem lines_calls (text : ByteArray) (w : World) : CallsIn Fence.wide 4 Tryz.prog 57 #[.string text] w fun e w' => e = .returned (.func (.func 70) #[] #[.pointer (some ⟨w.heap.size, 0, none⟩)]) ∧ w' = w.alloc (.cells #[.string text] 9) := by
  refine callsIn_of_wp Tryz.func57 rfl trivial ?_ rfl
  simp only [Tryz.ntmps57, List.size_toArray, List.length_cons, List.length_nil, Nat.reduceAdd, Nat.reduceSub, Array.replicate_succ, Array.replicate_zero, List.push_toArray, List.append_toArray, List.nil_append, List.cons_append]
  gi_wp2
  go_ret
  exact ⟨rfl, rfl⟩
theorem lines_box (b : Nat) (text : ByteArray) (hs : text.size < 4294967281) (w : World) (hbx : Boxed w b 9 (.string text)) :
    SeqBox Fence.wide 4 Tryz.prog 70 #[.pointer (some ⟨b, 0, none⟩)] lencs b GI (lns text) w := by
  intro l J Jx W hW hG hJ hJx hY h0
  exact lines1_in l b (lns text) J Jx text hs rfl W hG hJ hJx ((hW.block b hbx.lt).trans hbx) hY h0
end Go.Proofs.YtholbmidciapdaaGreatDoor.X
