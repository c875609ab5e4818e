/-
The law CorrectReads returns true for every input that can be read as data, and leaves its arguments as they were: the row, and the card that ties the listed variables to the program's text.
No condition of its own beyond those that the given row prints.
-/
import Derived.Test.YtmdfnambaedllaaDoorCards
import Derived.Test.YtmdfnambaedllaaDoorTie
import Derived.ProofKit
import Derived.OpenShut
import Derived.ShutString
import Derived.ChangeOld
import Derived.SizedLaws
import Derived.LaidMore
import Derived.Handed
import Derived.SevenTiedAt
import Derived.LaidSub
import Derived.LaidOnce
import Derived.Stop.Joined
import Derived.Stop.LaidErr
import Derived.Test.YtmdfnambaedllaaDoorCorrectReadsA
set_option linter.unusedVariables false
set_option linter.unusedSimpArgs false
namespace Go.Proofs.YtmdfnambaedllaaDoor.Pure
open Go Go.RowKit Go.Proofs.YtmdfnambaedllaaDoorW.PrintWords Go.Proofs.YtmdfnambaedllaaDoorW.PrintLast Go.Proofs.YtmdfnambaedllaaDoorW.PrintMore Go.Proofs.YtmdfnambaedllaaDoor.Pr Go.Proofs.YtmdfnambaedllaaDoor.PL
theorem true_ref {hs as_ : List Int} {ts : List (List Int)} (v : Valid hs as_ ts) (p : Ev (fun k => spileref19_Check.f k hs as_ ts) 0) (h a : Int) :
    (¬ (In hs h ∧ In as_ a) → Ev (fun k => spileref19_True.f k hs as_ ts h a) (0, 2)) ∧ (∀ x, IsStr hs as_ ts h a x → Ev (fun k => spileref19_True.f k hs as_ ts h a) (x, 0)) := by
  have := v.hs2; have := v.as2; have := v.hs32; have := v.as32
  have i1 := inside_ref (l := hs) (by omega) (by omega) h
  have i2 := inside_ref (l := as_) (by omega) (by omega) a
  unfold spileref19_True.f
  refine ⟨fun hn => evb p (evp rfl ?_), fun x hx => evb p (evp rfl (evb (evc (fun _ => rfl) (i1.1 hx.1)) (evp rfl (evb (evc (fun _ => rfl) (i2.1 hx.2.1)) (evp rfl (evb (hx.ref v) (Ev.now _)))))))⟩
  by_cases c : In hs h
  · exact evb (evc (fun _ => rfl) (i1.1 c)) (evp rfl (evb (evc (fun _ => rfl) (i2.2 fun c2 => hn ⟨c, c2⟩)) (evn (by decide) (Ev.now _))))
  · exact evb (evc (fun _ => rfl) (i1.2 c)) (evn (by decide) (Ev.now _))
theorem apparent_ref {hs as_ : List Int} {ts : List (List Int)} (v : Valid hs as_ ts) (p : Ev (fun k => spileref19_Check.f k hs as_ ts) 0) (h s : Int) :
    (¬ (In hs h ∧ ¬ Out 0 10000 s) → Ev (fun k => spileref19_Apparent.f k hs as_ ts h s) (0, 2)) ∧
    (In hs h → ¬ Out 0 10000 s → (∀ x, IsStr hs as_ ts h (rd as_ 0) x → s < x → Ev (fun k => spileref19_Apparent.f k hs as_ ts h s) (0, 7)) ∧ (∀ m, Found hs as_ ts h s m → Ev (fun k => spileref19_Apparent.f k hs as_ ts h s) (m, 0))) := by
  have n1 := v.hs2; have n2 := v.as2; have n3 := v.hs32; have n4 := v.as32
  have B3 := (v.str 0 (by omega) (by omega)).1
  have B4 := (v.str ((as_.length : Int) - 1) (by omega) (by omega)).2
  have B5 := v.aris.le (i := 0) (j := (as_.length : Int) - 1) (by omega) (by omega) (by omega)
  have i1 := inside_ref (l := hs) (by omega) (by omega) h
  have w1 : wrap64 ((as_.length : Int) - 1) = (as_.length : Int) - 1 := w64 (by omega) (by omega)
  constructor
  · intro hn
    unfold spileref19_Apparent.f
    refine evb p (evp rfl ?_)
    have bad : Ev (fun k => spileref19_Apparent.j0 k h s true hs as_ ts) (0, 2) := Ev.step (fun k => spileref19_Apparent.j0.eq_2 ..) (evp rfl (Ev.now _))
    by_cases c : In hs h
    · have o : Out 0 10000 s := Classical.byContradiction fun o => hn ⟨c, o⟩
      refine evb (evc (fun _ => rfl) (i1.1 c)) (evp rfl ?_)
      by_cases c2 : s < 0
      · exact evp c2 bad
      · refine evn c2 ?_
        rw [decide_eq_true (show s > 10000 by simp only [Out] at o; omega)]
        exact bad
    · exact evb (evc (fun _ => rfl) (i1.2 c)) (evn (by decide) bad)
  · intro hh ho
    have ho' : 0 ≤ s ∧ s ≤ 10000 := by simp only [Out] at ho; omega
    have top : ∀ {x z}, IsStr hs as_ ts h (rd as_ 0) x → Ev (fun k => if x > s then some (0, 7) else spileref19_Apparent.l0 k h s (rd as_ 0) (rd as_ ((as_.length : Int) - 1)) hs as_ ts) z → Ev (fun k => spileref19_Apparent.f k hs as_ ts h s) z := fun {x z} hx hz => by
      unfold spileref19_Apparent.f
      refine evb p (evp rfl (evb (evc (fun _ => rfl) (i1.1 hh)) (evp rfl (evn (by omega) ?_))))
      rw [decide_eq_false (show ¬ s > 10000 by omega)]
      refine Ev.step (fun k => spileref19_Apparent.j0.eq_2 ..) (evn (by decide) ?_)
      rw [w1]
      exact evp (by omega) (evp (by omega) (evp (by omega) (evb (hx.ref v) hz)))
    refine ⟨fun x hx hs' => top hx (evp hs' (Ev.now _)), fun m hm => ?_⟩
    have hm' := hm
    obtain ⟨mi, ⟨x, hx, xs⟩, m3⟩ := hm
    obtain ⟨x0, hx0⟩ := IsStr.mk' v hh (a := rd as_ 0) ⟨Int.le_refl _, B5⟩
    have := hx0.mono_a v mi.1 hx
    refine top hx0 (evn (by omega) ?_)
    have go : ∀ (d : Nat) (lo hi : Int), hi - lo ≤ d → rd as_ 0 ≤ lo → lo ≤ m → m ≤ hi → hi ≤ rd as_ ((as_.length : Int) - 1) → Ev (fun k => spileref19_Apparent.l0 k h s lo hi hs as_ ts) (m, 0) := by
      intro d
      induction d with
      | zero =>
        intro lo hi h0 h1 h2 h3 h4
        obtain rfl : lo = m := by omega
        exact Ev.step (fun k => spileref19_Apparent.l0.eq_2 ..) (evn (by omega) (Ev.now _))
      | succ d ih =>
        intro lo hi h0 h1 h2 h3 h4
        by_cases e : lo < hi
        · have e1 : wrap64 (Int.tdiv (wrap64 (wrap64 (lo + hi) + 1)) 2) = (lo + hi + 1) / 2 := by
            rw [w64 (x := lo + hi) (by omega) (by omega), w64 (x := lo + hi + 1) (by omega) (by omega), Int.tdiv_eq_ediv_of_nonneg (by omega), w64 (by omega) (by omega)]
          obtain ⟨y, hy⟩ := IsStr.mk' v hh (a := (lo + hi + 1) / 2) ⟨by omega, by omega⟩
          refine Ev.step (fun k => spileref19_Apparent.l0.eq_2 ..) (evp e ?_)
          rw [e1, w64 (x := (lo + hi + 1) / 2 - 1) (by omega) (by omega)]
          refine evb (hy.ref v) ?_
          by_cases c : y ≤ s
          · refine evp c (ih _ _ (by omega) (by omega) ?_ h3 h4)
            refine Classical.byContradiction fun h5 => ?_
            obtain ⟨z, hz, zs⟩ := m3 (by omega)
            have := hz.mono_a v (show m + 1 ≤ (lo + hi + 1) / 2 by omega) hy
            omega
          · refine evn c (ih _ _ (by omega) h1 h2 ?_ (by omega))
            refine Classical.byContradiction fun h5 => ?_
            have := hy.mono_a v (show (lo + hi + 1) / 2 ≤ m by omega) hx
            omega
        · obtain rfl : lo = m := by omega
          exact Ev.step (fun k => spileref19_Apparent.l0.eq_2 ..) (evn e (Ev.now _))
    exact go _ _ _ (Int.le_of_eq (Int.toNat_of_nonneg (show 0 ≤ rd as_ ((as_.length : Int) - 1) - rd as_ 0 by omega)).symm) (Int.le_refl _) mi.1 mi.2 (Int.le_refl _)
end Go.Proofs.YtmdfnambaedllaaDoor.Pure
namespace Go.Proofs.YtmdfnambaedllaaDoor.Pure
open Go Go.RowKit Go.Proofs.YtmdfnambaedllaaDoorW.PrintWords Go.Proofs.YtmdfnambaedllaaDoorW.PrintLast Go.Proofs.YtmdfnambaedllaaDoorW.PrintMore Go.Proofs.YtmdfnambaedllaaDoor.Pr Go.Proofs.YtmdfnambaedllaaDoor.PL Go.Proofs.YtmdfnambaedllaaDoor.Opn Go.Proofs.YtmdfnambaedllaaDoor.X
theorem true_both (hs as_ : List Int) (ts : List (List Int)) (h a : Int) (hh : hs.length ≤ maxLen) (ha : as_.length ≤ maxLen) (ht : ts.length ≤ maxLen) (hrl : ∀ x, x ∈ ts → x.length ≤ maxLen) :
    ∃ r, Ev (fun k => correct_True.f k hs as_ ts h a) r ∧ Ev (fun k => spileref19_True.f k hs as_ ts h a) r := by
  obtain ⟨c, p, q, hc⟩ := check_both hs as_ ts hh ha ht hrl
  by_cases c0 : c = 0
  · subst c0
    have v := hc.1 rfl
    by_cases b : In hs h ∧ In as_ a
    · obtain ⟨x, hx⟩ := IsStr.mk' v b.1 b.2
      exact ⟨_, (true_prog v p h a).2 x hx, (true_ref v q h a).2 x hx⟩
    · exact ⟨_, (true_prog v p h a).1 b, (true_ref v q h a).1 b⟩
  · refine ⟨(0, 1), true_bad p c0 h a, ?_⟩
    unfold spileref19_True.f
    exact evb q (evn c0 (Ev.now _))
theorem apparent_both (hs as_ : List Int) (ts : List (List Int)) (h s : Int) (hh : hs.length ≤ maxLen) (ha : as_.length ≤ maxLen) (ht : ts.length ≤ maxLen) (hrl : ∀ x, x ∈ ts → x.length ≤ maxLen) :
    ∃ r, Ev (fun k => correct_Apparent.f k hs as_ ts h s) r ∧ Ev (fun k => spileref19_Apparent.f k hs as_ ts h s) r := by
  obtain ⟨c, p, q, hc⟩ := check_both hs as_ ts hh ha ht hrl
  by_cases c0 : c = 0
  · subst c0
    have v := hc.1 rfl
    by_cases b : In hs h ∧ ¬ Out 0 10000 s
    · have r := (apparent_ref v q h s).2 b.1 b.2
      rcases (apparent_prog v p h s).2 b.1 b.2 with ⟨e, x, hx, hs'⟩ | ⟨m, e, hm⟩
      · exact ⟨_, e, r.1 x hx hs'⟩
      · exact ⟨_, e, r.2 m hm⟩
    · exact ⟨_, (apparent_prog v p h s).1 b, (apparent_ref v q h s).1 b⟩
  · refine ⟨(0, 1), ?_, ?_⟩
    · unfold correct_Apparent.f
      exact evb p (evn c0 (Ev.now _))
    · unfold spileref19_Apparent.f
      exact evb q (evn c0 (Ev.now _))
theorem CorrectReads : correctReadsPure := by
  intro hs as_ ts a1 a2 ⟨hh, _⟩ ⟨ha, _⟩ ⟨ht, hr⟩ _ _
  refine Ev.rounds (r := true) ?_
  unfold spilelaw19_CorrectReads.f
  refine evb (a := true) (evc (fun _ => rfl) rfl) (evp rfl ?_)
  obtain ⟨b, hb⟩ := few_some hs as_ ts ht
  refine evb hb ?_
  cases b with
  | false => exact evn (by decide) (Ev.now _)
  | true =>
    have hrl := fun x hx => (hr x hx).1
    obtain ⟨r1, p1, q1⟩ := true_both hs as_ ts a1 a2 hh ha ht hrl
    obtain ⟨r2, p2, q2⟩ := apparent_both hs as_ ts a1 a2 hh ha ht hrl
    obtain ⟨r3, p3, q3, _⟩ := check_both hs as_ ts hh ha ht hrl
    exact evp rfl (evb p1 (evb q1 (evb p2 (evb q2 (evb p3 (evb q3 (evp rfl (evp rfl (evp rfl (evp rfl (evr (by simp))))))))))))
end Go.Proofs.YtmdfnambaedllaaDoor.Pure
namespace Go.Proofs.YtmdfnambaedllaaDoor.correctReads
open Go Go.ChangeShapes Go.WideShapes Go.ChangeAt Go.RowKit
open Go.ChangeMaps (open_string shut_string)
open Go.Proofs.YtmdfnambaedllaaDoorW.PrintWords Go.Proofs.YtmdfnambaedllaaDoor.O Go.Proofs.YtmdfnambaedllaaDoor.Opn Go.Proofs.YtmdfnambaedllaaDoor.Pr Go.Proofs.YtmdfnambaedllaaDoor.X
theorem own : ownKnob Tryd.prog.godebug = none := by kernel_rfl
theorem laidOut : laidOutB Tryd.prog = true := by kernel_rfl
abbrev laidL : List (String × DataW Unit) := [("math/bits.deBruijn32tab", Rows.laid_math_bits_deBruijn32tab), ("math/bits.deBruijn64tab", Rows.laid_math_bits_deBruijn64tab), ("internal/strconv.uint64pow10", Rows.laid_internal_strconv_uint64pow10)]
set_option maxRecDepth 100000 in
theorem lifted (os : Os) (started : os.Started) (H : Type) (enc : TypeId × Value → H)
    (hwit : ∀ args : Array Value, laidMetH Tryd.prog laidL ((World.doorLaid Tryd.prog 400 os).forCall (fun _ _ => 0) ⟨#[], args, []⟩).memory) :
    ReturnsInHanded {} Tryd.checked os 6 .any (fun w args => (Rows.correctReadsSpec.pre enc Tryd.prog Tryd.f6 [] false w args ∧ laidMetH Tryd.prog laidL w) ∧ sizedMet enc Tryd.prog Tryd.f6 (OpenSpec.ofChange Rows.correctReadsSpec) false w args)
      (Rows.correctReadsSpec.post enc Tryd.prog Tryd.f6 false true false false) := by
  refine returnsInHanded_of_change_and (C := Tryd.checked) (X := (fun w _ => laidMetH Tryd.prog laidL w)) (fun _ _ _ hh h => h.of_heap hh) own started (by kernel_rfl) Tryd.func6
    (ChangeSpec.witness_shaped (enc := enc) (C := Tryd.checked) (os := os) (X := (fun w _ => laidMetH Tryd.prog laidL w)) false (World.doorLaid Tryd.prog 400 os) #[.agg #[.slice none 0 0, .slice none 0 0, .slice none 0 0], .int .i64 0, .int .i64 0] 8 rfl (World.shaped_of_RefB (by kernel_rfl) (by kernel_rfl)) (by kernel_rfl) (by kernel_rfl) (by kernel_rfl) (hwit _)) ?_
  intro W base args ds gs before hval0 hW _ _ hL _
  have hval : ∀ (j : Nat) t v, Tryd.f6.params[j]? = some t → args[j]? = some v → Value.okWide Tryd.prog W .any base t v := hval0
  have hW' := hW
  obtain ⟨p, q, hA0, hV, rfl, hfz, hnd⟩ := hW
  have hA : DataW.TrodAll enc Tryd.prog W 0 (fun _ => true) true Tryd.f6.params.toList args.toList ds p := hA0
  rw [Tryd.params6] at hA hval
  obtain ⟨v0, vs0, d0, ds0, p0, q0, hargs, rfl, rfl, h0, r0⟩ := trodAll_cons hA
  obtain ⟨v1, vs1, d1, ds1, p1, q1, rfl, rfl, rfl, h1, r1⟩ := trodAll_cons r0
  obtain ⟨v2, vs2, d2, ds2, p2, q2, rfl, rfl, rfl, h2, r2⟩ := trodAll_cons r1
  obtain ⟨rfl, rfl, rfl⟩ := trodAll_nil r2
  obtain rfl : args = #[v0, v1, v2] := by cases args; simp_all
  obtain ⟨rfl, rfl⟩ := trodVars_none hV
  obtain ⟨cs0, rfl, _⟩ := okWide_struct Tryd.underlying25 (hval 0 25 v0 rfl rfl)
  have k0 := h0
  have lt0 : ∀ x ∈ p0, x.block < W.heap.size := by obtain ⟨m, hm⟩ := k0; exact DataW.trod_lt m _ _ _ hm
  obtain ⟨x0, K0, ok0⟩ : ∃ x, k25.K W x cs0.toList ∧ ok25 x := by
    obtain ⟨fuel, hf⟩ := h0
    exact opens25.2 _ _ _ _ _ _ _ _ _ hf
  obtain ⟨A0_0, c0_0, A0_1, c0_1, A0_2, c0_2, e0, g0_0, hr0_0, g0_1, hr0_1, g0_2, hr0_2⟩ := k25_open K0
  obtain rfl : cs0 = #[.slice A0_0 (x0.f0).length c0_0, .slice A0_1 (x0.f1).length c0_1, .slice A0_2 (x0.f2).length c0_2] := by cases cs0; simpa using e0
  obtain ⟨a1, rfl, rfl, rfl, w1⟩ := open_int Tryd.underlying3 (hval 1 3 v1 rfl rfl) h1
  obtain ⟨a2, rfl, rfl, rfl, w2⟩ := open_int Tryd.underlying3 (hval 2 3 v2 rfl rfl) h2
  clear hA0 hval0
  obtain ⟨k, hp⟩ := Pure.CorrectReads (x0.f0) (x0.f1) (x0.f2) a1 a2 ok0.1 ok0.2.1 ok0.2.2 w1 w2
  have hG : GI W := GI.of_laid laidL (by simp [laidL]) hL
  refine (spilelaw19_CorrectReads.calls k _ _ (x0.f0) _ _ (x0.f1) _ _ (x0.f2) a1 a2 true W hr0_0 g0_0 hr0_1 g0_1 hr0_2 g0_2 hG hp).mono fun e W' ⟨he, bel⟩ => ?_
  subst he
  exact ⟨_, rfl, _, _, _, [], _, [], hW', trodAll_mk1 (shut_bool Tryd.underlying4 _), (trodAll_cons_mk (Below.trod laidOut (by kernel_rfl) (of_decide_eq_true (by kernel_rfl)) k0 bel lt0) (trodAll_cons_mk (shut_int Tryd.underlying3 w1) (trodAll_cons_mk (shut_int Tryd.underlying3 w2) trodAll_mk0))), rfl, bel.frame _, fun h => by cases h⟩
theorem holds (hwit : ∀ (os : Os) (args : Array Value), laidMetH Tryd.prog laidL ((World.doorLaid Tryd.prog 400 os).forCall (fun _ _ => 0) ⟨#[], args, []⟩).memory) : Rows.CorrectReadsSaid :=
  OpenClaim.holds_of_wide 6 Tryd.f6 rfl rfl rfl rfl rfl rfl rfl ⟨rfl, rfl, rfl, rfl, rfl⟩ rfl rfl rfl rfl rfl (by kernel_rfl) Tryd.func6 (by kernel_rfl)
    (of_decide_eq_true (by kernel_rfl)) (by unfold Func.isWrapper; first | (rw [if_pos (by decide +kernel)]; kernel_rfl) | (rw [if_neg (by decide +kernel)]; exact ⟨rfl, rfl⟩))
    (fun os started H enc _ => lifted os started H enc (hwit os))
theorem door_met (os : Os) (args : Array Value) : laidMetH Tryd.prog laidL ((World.doorLaid Tryd.prog 400 os).forCall (fun _ _ => 0) ⟨#[], args, []⟩).memory :=
  laidMetH_of_parts3 (fuel := 8) (laidMet_of_run' 8 (by kernel_rfl) (by kernel_rfl)) (by kernel_rfl) (by kernel_rfl)
theorem card : Rows.CorrectReadsCardSaid :=
  Claim7.holds_tied_plain_at .later [] [.data, .data, .data] true (true, "43761afd2ec77655b7605f986a4f9a4256ebde91a38a7a669bad47d42540965e") true
    (holds door_met) (fun _ h => by cases h) (by kernel_rfl) (fun _ h => by cases h) correctReads_row_tie rfl ⟨rfl, rfl⟩ (by kernel_rfl) rfl
    (fun f fn hf hfn => by
      obtain rfl : f = 6 := Option.some.inj ((show Tryd.prog.funcNamed "spile/spilelaw19.CorrectReads" = some 6 by kernel_rfl).symm.trans hf) |>.symm
      obtain rfl : fn = Tryd.f6 := (Option.some.inj (Tryd.func6.symm.trans hfn)).symm
      exact ⟨by kernel_rfl, fun j t ht => by
        rw [Tryd.params6] at ht
        have hm : t ∈ [25, 3, 3] := by simpa using Array.mem_of_getElem? ht
        have hall : ([25, 3, 3].all fun u => !Tryd.prog.wantsStandIn u) = true := by kernel_rfl
        exact (show Tryd.prog.wantsStandIn t = false by simpa using List.all_eq_true.1 hall t hm)⟩)
    (by kernel_rfl)
end Go.Proofs.YtmdfnambaedllaaDoor.correctReads
namespace Go.Proofs.YtmdfnambaedllaaDoor
/-- The card, under a short name, for the claim. -/
theorem correctReads_holds : Rows.CorrectReadsCardSaid := correctReads.card
#print axioms correctReads_holds
end Go.Proofs.YtmdfnambaedllaaDoor
