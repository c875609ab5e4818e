/-
The law TariffGrows returns true for every input that can be read as data, and leaves its arguments as they were: the row, and the card that ties the listed variables to the program's text.
No condition of its own beyond those that the given row prints.
-/
import Derived.HandedShaped
import Derived.Handed
import Derived.Test.YtholbmidciapdaaGreatDoorCards
import Derived.Test.YtholbmidciapdaaGreatDoorTie
import Derived.ProofKit
import Derived.OpenShut
import Derived.ShutString
import Derived.ChangeOld
import Derived.SizedLaws
import Derived.LaidMore
import Derived.Lay
import Derived.MakeChecks
import Derived.SevenTiedAt
import Derived.LaidSub
import Derived.LaidOnce
import Derived.Stop.Joined
import Derived.Stop.LaidErr
import Derived.Test.YtholbmidciapdaaGreatDoorTariffGrowsE
set_option linter.unusedVariables false
set_option linter.unusedSimpArgs false
namespace Go.Proofs.YtholbmidciapdaaGreatDoor.Pure
open Go Go.RowKit Go.Proofs.YtholbmidciapdaaGreatDoorW.PrintWords Go.Proofs.YtholbmidciapdaaGreatDoorW.PrintLast Go.Proofs.YtholbmidciapdaaGreatDoorW.PrintMore Go.Proofs.YtholbmidciapdaaGreatDoor.Pr Go.Proofs.YtholbmidciapdaaGreatDoor.Opn Go.Proofs.YtholbmidciapdaaGreatDoor.X Go.Proofs.YtholbmidciapdaaGreatDoor.PL
theorem grows_ev (R : Int) (l : List S26) (hn : (l.length : Int) ≤ 65) (c d a b n : Int) (a0 : 0 ≤ a) (a1 : a ≤ 2684354560000) (b0 : 0 ≤ b) (b1 : b ≤ 2684354560000) (n0 : 0 ≤ n) (n1 : n ≤ 50000) :
    Ev (fun k => spilelaw46_TariffGrows.j0 k c d a b n false R l) true := by
  have hcp : Ev (fun _ : Nat => spilelaw46_cp.f R l) (R, l) := evc (fun _ => rfl) (cp_eq hn)
  have w1 : wrap64 (a + b) = a + b := w64 (by omega) (by omega)
  have w2 : wrap64 (2 * n) = 2 * n := w64 (by omega) (by omega)
  have w3 : wrap64 (2 * n * 10000000) = 2 * n * 10000000 := w64 (by omega) (by omega)
  have w4 : wrap64 (2 * n * 10000000 + a) = 2 * n * 10000000 + a := w64 (by omega) (by omega)
  have dx := duty_ev R l hn c d a
  have dy := duty_ev R l hn c d b
  have dz := duty_ev R l hn c d (a + b)
  have dw := duty_ev R l hn c d (2 * n * 10000000 + a)
  have da := at_ev R l hn c d
  rw [dutyV_in R l c d a0 (by omega)] at dx
  rw [dutyV_in R l c d b0 (by omega)] at dy
  rw [dutyV_in R l c d (by omega) (by omega)] at dz
  rw [dutyV_in R l c d (by omega) (by omega)] at dw
  refine Ev.step (fun k => spilelaw46_TariffGrows.j0.eq_2 ..) (evn (by simp) ?_)
  rw [w1, w2, w3, w4]
  by_cases h : (atV R l c d).2.2.2 = 0
  case neg =>
    rw [if_neg h] at dx dy dz dw
    exact evb hcp (evb dx (evb hcp (evb dy (evb hcp (evb dz (evb hcp (evb dw (evb hcp (evb da (evn h (evp rfl (evp rfl (evp rfl (evr (by simp)))))))))))))))
  rw [if_pos h] at dx dy dz dw
  obtain ⟨ok, _, _, hm, e⟩ := at_coins h
  have rg := (ok.2.2.1 _ hm).2.2
  have ec : (atV R l c d).2.2.1 = (frc c d l s0).1.f2 := by rw [e]
  rw [← ec] at rg
  generalize hmm : (atV R l c d).2.2.1 = m at *
  have p1 := mulb (x := m) (y := a) (X := 1000000) (Y := 2684354560000) rg.1 rg.2 a0 a1
  have p2 := mulb (x := m) (y := b) (X := 1000000) (Y := 2684354560000) rg.1 rg.2 b0 b1
  have p3 := mulb (x := n) (y := m) (X := 50000) (Y := 1000000) n0 n1 rg.1 rg.2
  have r1 := ok.1.1
  have r2 := ok.1.2
  have ez : m * (a + b) = m * a + m * b := Int.mul_add ..
  have ew : m * (2 * n * 10000000 + a) = m * a + 10000000 * (2 * (n * m)) := by
    have q1 : m * (2 * n * 10000000) = 10000000 * (2 * (n * m)) := by
      rw [show 2 * n * 10000000 = n * 20000000 from by omega, ← Int.mul_assoc, Int.mul_comm m n]
      omega
    rw [Int.mul_add, q1, Int.add_comm]
  rw [ez] at dz
  rw [ew, rnd_shift r1 r2] at dw
  have bx := rnd_bounds (rule := R) (n := m * a) r1 r2 p1.1
  have by_ := rnd_bounds (rule := R) (n := m * b) r1 r2 p2.1
  have bz := rnd_bounds (rule := R) (n := m * a + m * b) r1 r2 (by omega)
  have g1 := rnd_mono (rule := R) (m := m * a) (n := m * a + m * b) r1 r2 (by omega)
  have g2 := rnd_mono (rule := R) (m := m * b) (n := m * a + m * b) r1 r2 (by omega)
  have g3 := rnd_sum (rule := R) (m := m * a) (n := m * b) r1 r2
  have e2 : 2 * n * m = 2 * (n * m) := Int.mul_assoc ..
  generalize rnd R (m * a) = x at *
  generalize rnd R (m * b) = y at *
  generalize rnd R (m * a + m * b) = z at *
  generalize n * m = nm at *
  have v1 : wrap64 (z - x) = z - x := w64 (by omega) (by omega)
  have v2 : wrap64 (z - x - y) = z - x - y := w64 (by omega) (by omega)
  have v3 : wrap64 (2 * nm) = 2 * nm := w64 (by omega) (by omega)
  have v4 : wrap64 (x + 2 * nm) = x + 2 * nm := w64 (by omega) (by omega)
  refine evb hcp (evb dx (evb hcp (evb dy (evb hcp (evb dz (evb hcp (evb dw (evb hcp (evb da (evp rfl ?_))))))))))
  have s0_ : wrap64 ((wrap64 ((wrap64 ((0 : Int) + 0)) + 0)) + (atV R l c d).2.2.2) = 0 := by rw [h]; unfold wrap64; omega
  refine evp s0_ (evp g1 (evp g2 ?_))
  rw [hmm, v1, v2, e2, v3, v4]
  exact evp g3.1 (evp g3.2 (evr (by simp)))
theorem TariffGrows : tariffGrowsPure := by
  intro R l c d a b n hR hl hc hd ha hb hn
  refine Ev.rounds ?_
  obtain ⟨q, hq, hq2⟩ := few_eq R l
  have haw : Ev (fun _ : Nat => spilelaw46_awake.f) true := Ev.now _
  have yes : ∀ t, t = true → Ev (fun k => spilelaw46_TariffGrows.j0 k c d a b n t R l) true := fun t ht => Ev.step (fun k => spilelaw46_TariffGrows.j0.eq_2 ..) (evp ht (evb haw (Ev.now _)))
  refine evb haw (evp rfl (evb (evc (fun _ => rfl) hq) ?_))
  cases q with
  | false => exact evn (by simp) (yes _ rfl)
  | true =>
    have hn := hq2 rfl
    refine evp rfl ?_
    by_cases c1 : a < 0
    · exact evp c1 (yes _ rfl)
    by_cases c2 : b < 0
    · exact evn c1 (evp c2 (yes _ rfl))
    by_cases c3 : a > 2684354560000
    · exact evn c1 (evn c2 (evp c3 (yes _ rfl)))
    by_cases c4 : b > 2684354560000
    · exact evn c1 (evn c2 (evn c3 (evp c4 (yes _ rfl))))
    by_cases c5 : n < 0
    · exact evn c1 (evn c2 (evn c3 (evn c4 (evp c5 (yes _ rfl)))))
    by_cases c6 : n > 50000
    · exact evn c1 (evn c2 (evn c3 (evn c4 (evn c5 (yes _ (decide_eq_true c6))))))
    · rw [decide_eq_false c6]
      exact evn c1 (evn c2 (evn c3 (evn c4 (evn c5 (grows_ev R l hn c d a b n (by omega) (by omega) (by omega) (by omega) (by omega) (by omega))))))
end Go.Proofs.YtholbmidciapdaaGreatDoor.Pure
namespace Go.Proofs.YtholbmidciapdaaGreatDoor.X
open Go
variable {H : Type} {enc : TypeId × Value → H}
theorem wrap_shaped {a : Assume} {C : Checked} {os : Os} {f : FuncId} {fn : Func} {s : ChangeSpec} {conds : List PathCond} {apart fresh handsOn again : Bool} {X : World → Array Value → Prop}
    (hX : ∀ (w w' : World) (args : Array Value), w.heap = w'.heap → X w args → X w' args)
    (own : ownKnob C.prog.godebug = none) (started : os.Started) (noInit : C.prog.inits.idxOf? f = none) (hfn : C.prog.funcs[f]? = some fn)
    (witness : ∃ (w : World) (tape : Tape) (i : Input), w.os = os ∧ (w.forCall tape i).Shaped C.prog ∧ i.vars = [] ∧ Input.okWide C.prog (w.forCall tape i) .any w.heap.size f i ∧
      ((s.pre enc C.prog fn conds apart (w.forCall tape i).memory i.args ∧ X (w.forCall tape i).memory i.args) ∧ sizedMet enc C.prog fn (OpenSpec.ofChange s) apart (w.forCall tape i).memory i.args) ∧ a.holds C.prog (lone (Frame.enter C.prog f i.args .normal) [] (w.forCall tape i)))
    (walk : ∀ (W : World) (base : Nat) (args : Array Value) (ds gs : List (DataW H)) (before : List MemPlace),
      (∀ (j : Nat) t v, fn.params[j]? = some t → args[j]? = some v → Value.okWide C.prog W .any base t v) →
      DataW.Whole enc C.prog fn.params.toList s.vars apart W args.toList ds gs before → X W args → W.ShapedOpen C.prog →
      Calls C.prog f args W fun e W' => ∃ v, e = .returned v ∧ s.post enc C.prog fn apart fresh handsOn again W args v W') :
    ReturnsInHanded a C os f .any (fun w args => (s.pre enc C.prog fn conds apart w args ∧ X w args) ∧ sizedMet enc C.prog fn (OpenSpec.ofChange s) apart w args) (s.post enc C.prog fn apart fresh handsOn again) := by
  refine returnsInHanded_of_calls own started noInit witness ?_
  intro w tape i _ hsh _ hok hpre _
  obtain ⟨_, _, _, fn', hfn', _, _, _, _, hval⟩ := hok
  obtain rfl : fn' = fn := Option.some.inj (hfn'.symm.trans hfn)
  obtain ⟨⟨⟨ds, gs, before, hw, _⟩, hx⟩, _⟩ := hpre
  refine (walk (w.forCall tape i) w.heap.size i.args ds gs before hval (DataW.Whole.of_heap (w' := w.forCall tape i) (by rfl) hw) (hX _ _ _ (by rfl) hx) hsh).mono fun e W' ⟨v, he, hp⟩ => ?_
  subst he
  exact ChangeSpec.post_blind hp
end Go.Proofs.YtholbmidciapdaaGreatDoor.X
namespace Go.Proofs.YtholbmidciapdaaGreatDoor.tariffGrows
open Go Go.ChangeShapes Go.WideShapes Go.ChangeAt Go.RowKit
open Go.ChangeMaps (open_string shut_string)
open Go.Proofs.YtholbmidciapdaaGreatDoorW.PrintWords Go.Proofs.YtholbmidciapdaaGreatDoor.O Go.Proofs.YtholbmidciapdaaGreatDoor.Opn Go.Proofs.YtholbmidciapdaaGreatDoor.Pr Go.Proofs.YtholbmidciapdaaGreatDoor.X
theorem own : ownKnob Tryz.prog.godebug = none := by kernel_rfl
theorem laidOut : laidOutB Tryz.prog = true := by kernel_rfl
abbrev laidL : List (String × DataW Unit) := [("math/bits.deBruijn32tab", Rows.laid_math_bits_deBruijn32tab), ("math/bits.deBruijn64tab", Rows.laid_math_bits_deBruijn64tab), ("internal/strconv.uint64pow10", Rows.laid_internal_strconv_uint64pow10), ("unicode/utf8.acceptRanges", Rows.laid_unicode_utf8_acceptRanges), ("strconv.ErrRange", Rows.laid_strconv_ErrRange), ("strconv.ErrSyntax", Rows.laid_strconv_ErrSyntax), ("spile/tariff.words", Rows.laid_spile_tariff_words), ("unicode/utf8.first", Rows.laid_unicode_utf8_first)]
set_option maxRecDepth 100000 in
theorem lifted (os : Os) (started : os.Started) (H : Type) (enc : TypeId × Value → H) :
    ReturnsInHanded {} Tryz.checked os 7 .any (fun w args => (Rows.tariffGrowsSpec.pre enc Tryz.prog Tryz.f7 [] false w args ∧ laidMetH Tryz.prog laidL w) ∧ sizedMet enc Tryz.prog Tryz.f7 (OpenSpec.ofChange Rows.tariffGrowsSpec) false w args)
      (Rows.tariffGrowsSpec.post enc Tryz.prog Tryz.f7 false true false false) := by
  refine wrap_shaped (C := Tryz.checked) (X := (fun w _ => laidMetH Tryz.prog laidL w)) (fun _ _ _ hh h => h.of_heap hh) own started (by kernel_rfl) Tryz.func7
    (ChangeSpec.witness_shaped (enc := enc) (C := Tryz.checked) (os := os) (X := (fun w _ => laidMetH Tryz.prog laidL w)) false (World.laidAll Tryz.prog os laidL) #[.agg #[.int .i64 0, .slice none 0 0], .int .i64 0, .int .i64 0, .int .i64 0, .int .i64 0, .int .i64 0] 8 (World.laidAll_os _ _ _) (World.shaped_of_ZipB (by kernel_rfl) (by kernel_rfl)) (by kernel_rfl) (by kernel_rfl) (by kernel_rfl) (by rw [MakeChecks.laidMetH_plain _ _ _ (by kernel_rfl)]; exact laidMet_laidAll _ (by kernel_rfl) (by kernel_rfl))) ?_
  intro W base args ds gs before hval0 hW hL hsh
  have hval : ∀ (j : Nat) t v, Tryz.f7.params[j]? = some t → args[j]? = some v → Value.okWide Tryz.prog W .any base t v := hval0
  have hW' := hW
  obtain ⟨p, q, hA0, hV, rfl, hfz, hnd⟩ := hW
  have hA : DataW.TrodAll enc Tryz.prog W 0 (fun _ => true) true Tryz.f7.params.toList args.toList ds p := hA0
  rw [Tryz.params7] at hA hval
  obtain ⟨v0, vs0, d0, ds0, p0, q0, hargs, rfl, rfl, h0, r0⟩ := trodAll_cons hA
  obtain ⟨v1, vs1, d1, ds1, p1, q1, rfl, rfl, rfl, h1, r1⟩ := trodAll_cons r0
  obtain ⟨v2, vs2, d2, ds2, p2, q2, rfl, rfl, rfl, h2, r2⟩ := trodAll_cons r1
  obtain ⟨v3, vs3, d3, ds3, p3, q3, rfl, rfl, rfl, h3, r3⟩ := trodAll_cons r2
  obtain ⟨v4, vs4, d4, ds4, p4, q4, rfl, rfl, rfl, h4, r4⟩ := trodAll_cons r3
  obtain ⟨v5, vs5, d5, ds5, p5, q5, rfl, rfl, rfl, h5, r5⟩ := trodAll_cons r4
  obtain ⟨rfl, rfl, rfl⟩ := trodAll_nil r5
  obtain rfl : args = #[v0, v1, v2, v3, v4, v5] := by cases args; simp_all
  obtain ⟨rfl, rfl⟩ := trodVars_none hV
  obtain ⟨cs0, rfl, _⟩ := okWide_struct Tryz.underlying24 (hval 0 24 v0 rfl rfl)
  have k0 := h0
  have lt0 : ∀ x ∈ p0, x.block < W.heap.size := by obtain ⟨m, hm⟩ := k0; exact DataW.trod_lt m _ _ _ hm
  obtain ⟨x0, K0, ok0⟩ : ∃ x, k24.K W x cs0.toList ∧ ok24 x := by
    obtain ⟨fuel, hf⟩ := h0
    exact opens24.2 _ _ _ _ _ _ _ _ _ hf
  obtain ⟨A0_1, c0_1, e0, g0_1, hr0_1⟩ := k24_open K0
  obtain rfl : cs0 = #[.int .i64 (x0.f0), .slice A0_1 (x0.f1).length c0_1] := by cases cs0; simpa using e0
  obtain ⟨a1, rfl, rfl, rfl, w1⟩ := open_int Tryz.underlying3 (hval 1 3 v1 rfl rfl) h1
  obtain ⟨a2, rfl, rfl, rfl, w2⟩ := open_int Tryz.underlying3 (hval 2 3 v2 rfl rfl) h2
  obtain ⟨a3, rfl, rfl, rfl, w3⟩ := open_int Tryz.underlying3 (hval 3 3 v3 rfl rfl) h3
  obtain ⟨a4, rfl, rfl, rfl, w4⟩ := open_int Tryz.underlying3 (hval 4 3 v4 rfl rfl) h4
  obtain ⟨a5, rfl, rfl, rfl, w5⟩ := open_int Tryz.underlying3 (hval 5 3 v5 rfl rfl) h5
  clear hA0 hval0
  obtain ⟨k, hp⟩ := Pure.TariffGrows (x0.f0) (x0.f1) a1 a2 a3 a4 a5 ok0.1 ok0.2 w1 w2 w3 w4 w5
  have hG : GI W := GI.of_laid laidL (by simp [laidL]) (by simp [laidL]) (by simp [laidL]) (by simp [laidL]) hL hsh
  refine (spilelaw46_TariffGrows.calls k (x0.f0) _ _ (x0.f1) a1 a2 a3 a4 a5 true W hr0_1 g0_1 hG rfl hp).mono fun e W' ⟨he, bel⟩ => ?_
  subst he
  exact ⟨_, rfl, _, _, _, [], _, [], hW', trodAll_mk1 (shut_bool Tryz.underlying4 _), (trodAll_cons_mk (Below.trod laidOut (by kernel_rfl) (of_decide_eq_true (by kernel_rfl)) k0 bel lt0) (trodAll_cons_mk (shut_int Tryz.underlying3 w1) (trodAll_cons_mk (shut_int Tryz.underlying3 w2) (trodAll_cons_mk (shut_int Tryz.underlying3 w3) (trodAll_cons_mk (shut_int Tryz.underlying3 w4) (trodAll_cons_mk (shut_int Tryz.underlying3 w5) trodAll_mk0)))))), rfl, bel.frame _, fun h => by cases h⟩
theorem holds : Rows.TariffGrowsSaid :=
  OpenClaim.holds_of_wide 7 Tryz.f7 rfl rfl rfl rfl rfl rfl rfl ⟨rfl, rfl, rfl, rfl, rfl⟩ rfl rfl rfl rfl rfl (by kernel_rfl) Tryz.func7 (by kernel_rfl)
    (of_decide_eq_true (by kernel_rfl)) (by unfold Func.isWrapper; first | (rw [if_pos (by decide +kernel)]; kernel_rfl) | (rw [if_neg (by decide +kernel)]; exact ⟨rfl, rfl⟩))
    (fun os started H enc _ => lifted os started H enc)
theorem card : Rows.TariffGrowsCardSaid :=
  Claim7.holds_tied_plain_at .later [] [.data, .data, .data, .data, .sentinel, .sentinel, .widerDeep, .pinned] true (true, "e915a9bdfe9e1389aaf186e88c341004cfdabf0ce269b5d3aa2c8944f7f7b486") true
    holds (fun _ h => by cases h) (by kernel_rfl) (fun _ h => by cases h) tariffGrows_row_tie rfl ⟨rfl, rfl⟩ (by kernel_rfl) rfl
    (fun f fn hf hfn => by
      obtain rfl : f = 7 := Option.some.inj ((show Tryz.prog.funcNamed "spile/spilelaw46.TariffGrows" = some 7 by kernel_rfl).symm.trans hf) |>.symm
      obtain rfl : fn = Tryz.f7 := (Option.some.inj (Tryz.func7.symm.trans hfn)).symm
      exact ⟨by kernel_rfl, fun j t ht => by
        rw [Tryz.params7] at ht
        have hm : t ∈ [24, 3, 3, 3, 3, 3] := by simpa using Array.mem_of_getElem? ht
        have hall : ([24, 3, 3, 3, 3, 3].all fun u => !Tryz.prog.wantsStandIn u) = true := by kernel_rfl
        exact (show Tryz.prog.wantsStandIn t = false by simpa using List.all_eq_true.1 hall t hm)⟩)
    (by kernel_rfl)
end Go.Proofs.YtholbmidciapdaaGreatDoor.tariffGrows
namespace Go.Proofs.YtholbmidciapdaaGreatDoor
/-- The card, under a short name, for the claim. -/
theorem tariffGrows_holds : Rows.TariffGrowsCardSaid := tariffGrows.card
#print axioms tariffGrows_holds
end Go.Proofs.YtholbmidciapdaaGreatDoor
