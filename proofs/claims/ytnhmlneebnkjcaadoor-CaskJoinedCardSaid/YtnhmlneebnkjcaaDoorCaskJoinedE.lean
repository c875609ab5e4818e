/-
The law CaskJoined returns true for every input that can be read as data, and leaves its arguments as they were: the row, and the card that ties the listed variables to the program's text.
No condition of its own beyond those that the given row prints.
-/
import Derived.HandedShaped
import Derived.Handed
import Derived.Test.YtnhmlneebnkjcaaDoorCards
import Derived.Test.YtnhmlneebnkjcaaDoorTie
import Derived.ProofKit
import Derived.OpenShut
import Derived.ShutString
import Derived.ChangeOld
import Derived.SizedLaws
import Derived.LaidMore
import Derived.Lay
import Derived.MakeChecks
import Derived.SevenTiedAt
import Derived.LaidSub
import Derived.LaidOnce
import Derived.Stop.Joined
import Derived.Stop.LaidErr
import Derived.Test.YtnhmlneebnkjcaaDoorCaskJoinedD
set_option linter.unusedVariables false
set_option linter.unusedSimpArgs false
namespace Go.Proofs.YtnhmlneebnkjcaaDoor.PL
open Go Go.RowKit Go.Proofs.YtnhmlneebnkjcaaDoorW.PrintWords Go.Proofs.YtnhmlneebnkjcaaDoorW.PrintLast Go.Proofs.YtnhmlneebnkjcaaDoorW.PrintMore Go.Proofs.YtnhmlneebnkjcaaDoor.Pr Go.Proofs.YtnhmlneebnkjcaaDoor.Opn Go.Proofs.YtnhmlneebnkjcaaDoor.TX Go.Proofs.YtnhmlneebnkjcaaDoor.X
theorem pt_mem {x : S27} (h : OKC x) {p : S46} (hp : p ∈ x.f2) : PtP p := by
  obtain ⟨j, hj⟩ := List.mem_iff_getElem?.1 hp
  have hjl := (List.getElem?_eq_some_iff.1 hj).1
  have := h.rng.2.2.2.2 (j : Int) (by omega) (by omega)
  unfold rd_T46 at this
  rw [Int.toNat_natCast, List.getD_eq_getElem?_getD, hj] at this
  exact this
theorem castT_len {l : List S27} (hn : (l.length : Int) ≤ 32) (h : ∀ x, x ∈ l → OKC x) : (castT l).length ≤ 1500 * l.length := by
  have one : ∀ x, x ∈ l → (tl (linesOf x)).length ≤ 1500 := by
    intro x hx
    have hx2 := (h x hx).rng
    have a : (tl (x.f2.map ptT)).length ≤ 41 * (x.f2.map ptT).length := printL_len (m := 40) _ (fun z hz => by
      obtain ⟨p, hp, rfl⟩ := List.mem_map.1 hz
      exact pt_len (pt_mem (h x hx) hp))
    have b := head_len hx2
    have c := hx2.2.2.2.1
    have d : (tl [cEnd]).length = 4 := rfl
    unfold linesOf
    rw [tl_cons, tl_app, List.length_append, List.length_cons, List.length_append, d]
    rw [List.length_map] at a
    omega
  clear hn
  induction l with
  | nil => simp [castT, tl, printL]
  | cons x r ih =>
    have a := one x (by simp)
    have b := ih (fun y hy => h y (by simp [hy])) (fun y hy => one y (by simp [hy]))
    unfold castT at b ⊢
    rw [List.flatMap_cons, tl_app, List.length_append, List.length_cons]
    omega
end Go.Proofs.YtnhmlneebnkjcaaDoor.PL
namespace Go.Proofs.YtnhmlneebnkjcaaDoor.Pure
open Go Go.RowKit Go.Proofs.YtnhmlneebnkjcaaDoorW.PrintWords Go.Proofs.YtnhmlneebnkjcaaDoorW.PrintLast Go.Proofs.YtnhmlneebnkjcaaDoorW.PrintMore Go.Proofs.YtnhmlneebnkjcaaDoor.Pr Go.Proofs.YtnhmlneebnkjcaaDoor.Opn Go.Proofs.YtnhmlneebnkjcaaDoor.X Go.Proofs.YtnhmlneebnkjcaaDoor.PL
theorem u8_of_wf {x : Int} (h : (Lit.int .u8 x).wf = true) : 0 ≤ x ∧ x ≤ 255 := by
  simp [Lit.wf, IntKind.min, IntKind.max, IntKind.signed, IntKind.bits] at h
  omega
theorem rd_take {l : List S27} {k : Nat} {j : Int} (h0 : 0 ≤ j) (h1 : j < ((l.take k).length : Int)) : rd_T27 (l.take k) j = rd_T27 l j := by
  rw [List.length_take] at h1
  unfold rd_T27
  rw [List.getD_eq_getElem?_getD, List.getD_eq_getElem?_getD, List.getElem?_take_of_lt (by omega)]
theorem rd_drop {l : List S27} {k : Nat} {j : Int} (h0 : 0 ≤ j) : rd_T27 (l.drop k) j = rd_T27 l (j + k) := by
  unfold rd_T27
  rw [List.getD_eq_getElem?_getD, List.getD_eq_getElem?_getD, List.getElem?_drop, show k + j.toNat = (j + (k : Int)).toNat from by omega]
theorem okl_take {l : List S27} (h : OKL l) (k : Nat) : OKL (l.take k) := by
  refine ⟨by have := h.1; rw [List.length_take]; omega, fun x hx => h.2.1 x (List.mem_of_mem_take hx), fun j j0 j1 m m0 m1 => ?_⟩
  rw [rd_take j0 j1, rd_take m0 (by omega)]
  rw [List.length_take] at j1
  exact h.2.2 j j0 (by omega) m m0 m1
theorem okl_drop {l : List S27} (h : OKL l) (k : Nat) : OKL (l.drop k) := by
  refine ⟨by have := h.1; rw [List.length_drop]; omega, fun x hx => h.2.1 x (List.mem_of_mem_drop hx), fun j j0 j1 m m0 m1 => ?_⟩
  rw [rd_drop j0, rd_drop m0]
  rw [List.length_drop] at j1
  exact h.2.2 (j + k) (by omega) (by omega) (m + k) (by omega) (by omega)
theorem sml_take {l : List S27} (h : SmL l) (k : Nat) : SmL (l.take k) := ⟨by have := h.1; rw [List.length_take]; omega, fun x hx => h.2 x (List.mem_of_mem_take hx)⟩
theorem sml_drop {l : List S27} (h : SmL l) (k : Nat) : SmL (l.drop k) := ⟨by have := h.1; rw [List.length_drop]; omega, fun x hx => h.2 x (List.mem_of_mem_drop hx)⟩
theorem CaskJoined : caskJoinedPure := by
  intro l a hl ha
  refine Ev.rounds ?_
  obtain ⟨b, hb, hb2⟩ := few_ev l (len_le hl.1)
  have haw : Ev (fun _ : Nat => spilelaw09_awake.f) true := Ev.now _
  refine evb haw (evp rfl (evb hb ?_))
  cases b with
  | false => exact evn (by decide) (Ev.now _)
  | true =>
    have sm := (hb2 rfl).sm
    have hfew := (hb2 rfl).1
    have hc := copy_ev l sm
    obtain ⟨r, r1, _, r2, r3⟩ := print_both l sm
    refine evp rfl (evb hc (evb r1 ?_))
    by_cases ok : OKL l
    case neg =>
      obtain ⟨z1, z2, _⟩ := r3 ok
      exact evn z1 (evr (by rw [z2, ba_toList]; rfl))
    obtain rfl := r2 ok
    have a0 : 0 ≤ a ∧ a ≤ 255 := u8_of_wf ha
    have w1 : wrap64 ((l.length : Int) + 1) = (l.length : Int) + 1 := w64 (by omega) (by omega)
    have w2 : wrap64 a = a := w64 (by omega) (by omega)
    have ht : Int.tmod a ((l.length : Int) + 1) = a % ((l.length : Int) + 1) := Int.tmod_eq_emod_of_nonneg a0.1
    have t0 : 0 ≤ a % ((l.length : Int) + 1) := Int.emod_nonneg _ (by omega)
    have t1 : a % ((l.length : Int) + 1) < (l.length : Int) + 1 := Int.emod_lt_of_pos _ (by omega)
    refine evp rfl ?_
    rw [w1, w2, ht]
    clear w1 w2 ht
    generalize a % ((l.length : Int) + 1) = k at t0 t1
    obtain ⟨p, p1, _, p2, _⟩ := print_both (l.take k.toNat) (sml_take sm _)
    obtain ⟨q, q1, _, q2, _⟩ := print_both (l.drop k.toNat) (sml_drop sm _)
    obtain rfl := p2 (okl_take ok _)
    obtain rfl := q2 (okl_drop ok _)
    have lp := castT_len (okl_take ok k.toNat).1 (okl_take ok k.toNat).2.1
    have lq := castT_len (okl_drop ok k.toNat).1 (okl_drop ok k.toNat).2.1
    have e : castT (l.take k.toNat) ++ castT (l.drop k.toNat) = castT l := by
      unfold castT
      rw [← tl_app, ← List.flatMap_append, List.take_append_drop]
    have len1 : (l.take k.toNat).length ≤ 33 := by rw [List.length_take]; omega
    have len2 : (l.drop k.toNat).length ≤ 33 := by rw [List.length_drop]; omega
    refine evn (by omega) (evp t0 (evp (by omega) (evb (copy_ev _ (sml_take sm _)) (evb p1 (evb (copy_ev _ (sml_drop sm _)) (evb q1 (evp rfl (evp rfl (evp (by rw [ba_size, ba_size]; omega) (evr ?_))))))))))
    rw [ba_app, e]
    exact beq_self_eq_true _
end Go.Proofs.YtnhmlneebnkjcaaDoor.Pure
namespace Go.Proofs.YtnhmlneebnkjcaaDoor.X
open Go
variable {H : Type} {enc : TypeId × Value → H}
theorem wrap_shaped {a : Assume} {C : Checked} {os : Os} {f : FuncId} {fn : Func} {s : ChangeSpec} {conds : List PathCond} {apart fresh handsOn again : Bool} {X : World → Array Value → Prop}
    (hX : ∀ (w w' : World) (args : Array Value), w.heap = w'.heap → X w args → X w' args)
    (own : ownKnob C.prog.godebug = none) (started : os.Started) (noInit : C.prog.inits.idxOf? f = none) (hfn : C.prog.funcs[f]? = some fn)
    (witness : ∃ (w : World) (tape : Tape) (i : Input), w.os = os ∧ (w.forCall tape i).Shaped C.prog ∧ i.vars = [] ∧ Input.okWide C.prog (w.forCall tape i) .any w.heap.size f i ∧
      ((s.pre enc C.prog fn conds apart (w.forCall tape i).memory i.args ∧ X (w.forCall tape i).memory i.args) ∧ sizedMet enc C.prog fn (OpenSpec.ofChange s) apart (w.forCall tape i).memory i.args) ∧ a.holds C.prog (lone (Frame.enter C.prog f i.args .normal) [] (w.forCall tape i)))
    (walk : ∀ (W : World) (base : Nat) (args : Array Value) (ds gs : List (DataW H)) (before : List MemPlace),
      (∀ (j : Nat) t v, fn.params[j]? = some t → args[j]? = some v → Value.okWide C.prog W .any base t v) →
      DataW.Whole enc C.prog fn.params.toList s.vars apart W args.toList ds gs before → X W args → W.ShapedOpen C.prog →
      Calls C.prog f args W fun e W' => ∃ v, e = .returned v ∧ s.post enc C.prog fn apart fresh handsOn again W args v W') :
    ReturnsInHanded a C os f .any (fun w args => (s.pre enc C.prog fn conds apart w args ∧ X w args) ∧ sizedMet enc C.prog fn (OpenSpec.ofChange s) apart w args) (s.post enc C.prog fn apart fresh handsOn again) := by
  refine returnsInHanded_of_calls own started noInit witness ?_
  intro w tape i _ hsh _ hok hpre _
  obtain ⟨_, _, _, fn', hfn', _, _, _, _, hval⟩ := hok
  obtain rfl : fn' = fn := Option.some.inj (hfn'.symm.trans hfn)
  obtain ⟨⟨⟨ds, gs, before, hw, _⟩, hx⟩, _⟩ := hpre
  refine (walk (w.forCall tape i) w.heap.size i.args ds gs before hval (DataW.Whole.of_heap (w' := w.forCall tape i) (by rfl) hw) (hX _ _ _ (by rfl) hx) hsh).mono fun e W' ⟨v, he, hp⟩ => ?_
  subst he
  exact ChangeSpec.post_blind hp
end Go.Proofs.YtnhmlneebnkjcaaDoor.X
namespace Go.Proofs.YtnhmlneebnkjcaaDoor.caskJoined
open Go Go.ChangeShapes Go.WideShapes Go.ChangeAt Go.RowKit
open Go.ChangeMaps (open_string shut_string)
open Go.Proofs.YtnhmlneebnkjcaaDoorW.PrintWords Go.Proofs.YtnhmlneebnkjcaaDoor.O Go.Proofs.YtnhmlneebnkjcaaDoor.Opn Go.Proofs.YtnhmlneebnkjcaaDoor.Pr Go.Proofs.YtnhmlneebnkjcaaDoor.X
theorem own : ownKnob Tryd.prog.godebug = none := by kernel_rfl
theorem laidOut : laidOutB Tryd.prog = true := by kernel_rfl
abbrev laidL : List (String × DataW Unit) := [("math/bits.deBruijn32tab", Rows.laid_math_bits_deBruijn32tab), ("math/bits.deBruijn64tab", Rows.laid_math_bits_deBruijn64tab), ("internal/strconv.uint64pow10", Rows.laid_internal_strconv_uint64pow10), ("unicode/utf8.acceptRanges", Rows.laid_unicode_utf8_acceptRanges), ("unicode/utf8.first", Rows.laid_unicode_utf8_first)]
set_option maxRecDepth 100000 in
theorem lifted (os : Os) (started : os.Started) (H : Type) (enc : TypeId × Value → H) :
    ReturnsInHanded {} Tryd.checked os 8 .any (fun w args => (Rows.caskJoinedSpec.pre enc Tryd.prog Tryd.f8 [] false w args ∧ laidMetH Tryd.prog laidL w) ∧ sizedMet enc Tryd.prog Tryd.f8 (OpenSpec.ofChange Rows.caskJoinedSpec) false w args)
      (Rows.caskJoinedSpec.post enc Tryd.prog Tryd.f8 false true false false) := by
  refine wrap_shaped (C := Tryd.checked) (X := (fun w _ => laidMetH Tryd.prog laidL w)) (fun _ _ _ hh h => h.of_heap hh) own started (by kernel_rfl) Tryd.func8
    (ChangeSpec.witness_shaped (enc := enc) (C := Tryd.checked) (os := os) (X := (fun w _ => laidMetH Tryd.prog laidL w)) false (World.laidAll Tryd.prog os laidL) #[.slice none 0 0, .int .u8 0] 8 (World.laidAll_os _ _ _) (World.shaped_of_ZipB (by kernel_rfl) (by kernel_rfl)) (by kernel_rfl) (by kernel_rfl) (by kernel_rfl) (by rw [MakeChecks.laidMetH_plain _ _ _ (by kernel_rfl)]; exact laidMet_laidAll _ (by kernel_rfl) (by kernel_rfl))) ?_
  intro W base args ds gs before hval0 hW hL hsh
  have hval : ∀ (j : Nat) t v, Tryd.f8.params[j]? = some t → args[j]? = some v → Value.okWide Tryd.prog W .any base t v := hval0
  have hW' := hW
  obtain ⟨p, q, hA0, hV, rfl, hfz, hnd⟩ := hW
  have hA : DataW.TrodAll enc Tryd.prog W 0 (fun _ => true) true Tryd.f8.params.toList args.toList ds p := hA0
  rw [Tryd.params8] at hA hval
  obtain ⟨v0, vs0, d0, ds0, p0, q0, hargs, rfl, rfl, h0, r0⟩ := trodAll_cons hA
  obtain ⟨v1, vs1, d1, ds1, p1, q1, rfl, rfl, rfl, h1, r1⟩ := trodAll_cons r0
  obtain ⟨rfl, rfl, rfl⟩ := trodAll_nil r1
  obtain rfl : args = #[v0, v1] := by cases args; simp_all
  obtain ⟨rfl, rfl⟩ := trodVars_none hV
  obtain ⟨a0_, len0_, cap0_, rfl⟩ := okWide_slice Tryd.underlying22 (hval 0 22 v0 rfl rfl)
  have k0 := h0
  have lt0 : ∀ x ∈ p0, x.block < W.heap.size := by obtain ⟨m, hm⟩ := k0; exact DataW.trod_lt m _ _ _ hm
  obtain ⟨l0, K0, ok0⟩ : ∃ x, (Kd.slice 27 k27).K W x [.slice a0_ len0_ cap0_] ∧ (x.length ≤ maxLen ∧ ∀ x0_, x0_ ∈ x → ok27 x0_) := by
    obtain ⟨fuel, hf⟩ := h0
    exact opens22.2 _ _ _ _ _ _ _ _ _ hf
  obtain ⟨A0, c0, e0, g0, hr0⟩ := K0
  simp only [List.cons.injEq, Value.slice.injEq, and_true] at e0
  obtain ⟨rfl, rfl, rfl⟩ := e0
  obtain ⟨a1, rfl, rfl, rfl, w1⟩ := open_int Tryd.underlying5 (hval 1 5 v1 rfl rfl) h1
  clear hA0 hval0
  obtain ⟨k, hp⟩ := Pure.CaskJoined l0 a1 ok0 w1
  have hG : GI W := GI.of_laid laidL (by simp [laidL]) hL hsh
  refine (spilelaw09_CaskJoined.calls k _ _ l0 a1 true W hr0 g0 hG rfl hp).mono fun e W' ⟨he, bel⟩ => ?_
  subst he
  exact ⟨_, rfl, _, _, _, [], _, [], hW', trodAll_mk1 (shut_bool Tryd.underlying4 _), (trodAll_cons_mk (Below.trod laidOut (by kernel_rfl) (of_decide_eq_true (by kernel_rfl)) k0 bel lt0) (trodAll_cons_mk (shut_int Tryd.underlying5 w1) trodAll_mk0)), rfl, bel.frame _, fun h => by cases h⟩
theorem holds : Rows.CaskJoinedSaid :=
  OpenClaim.holds_of_wide 8 Tryd.f8 rfl rfl rfl rfl rfl rfl rfl ⟨rfl, rfl, rfl, rfl, rfl⟩ rfl rfl rfl rfl rfl (by kernel_rfl) Tryd.func8 (by kernel_rfl)
    (of_decide_eq_true (by kernel_rfl)) (by unfold Func.isWrapper; first | (rw [if_pos (by decide +kernel)]; kernel_rfl) | (rw [if_neg (by decide +kernel)]; exact ⟨rfl, rfl⟩))
    (fun os started H enc _ => lifted os started H enc)
theorem card : Rows.CaskJoinedCardSaid :=
  Claim7.holds_tied_plain_at .later [] [.data, .data, .data, .data, .pinned] true (true, "a11ba1a8ff04589e84bf96506875e99c97846a736c580a21adffadd5e088390c") false
    holds (fun _ h => by cases h) (by kernel_rfl) (fun _ h => by cases h) caskJoined_row_tie rfl ⟨rfl, rfl⟩ (by kernel_rfl) rfl
    (fun f fn hf hfn => by
      obtain rfl : f = 8 := Option.some.inj ((show Tryd.prog.funcNamed "spile/spilelaw09.CaskJoined" = some 8 by kernel_rfl).symm.trans hf) |>.symm
      obtain rfl : fn = Tryd.f8 := (Option.some.inj (Tryd.func8.symm.trans hfn)).symm
      exact ⟨by kernel_rfl, fun j t ht => by
        rw [Tryd.params8] at ht
        have hm : t ∈ [22, 5] := by simpa using Array.mem_of_getElem? ht
        have hall : ([22, 5].all fun u => !Tryd.prog.wantsStandIn u) = true := by kernel_rfl
        exact (show Tryd.prog.wantsStandIn t = false by simpa using List.all_eq_true.1 hall t hm)⟩)
    (by kernel_rfl)
end Go.Proofs.YtnhmlneebnkjcaaDoor.caskJoined
namespace Go.Proofs.YtnhmlneebnkjcaaDoor
/-- The card, under a short name, for the claim. -/
theorem caskJoined_holds : Rows.CaskJoinedCardSaid := caskJoined.card
#print axioms caskJoined_holds
end Go.Proofs.YtnhmlneebnkjcaaDoor
