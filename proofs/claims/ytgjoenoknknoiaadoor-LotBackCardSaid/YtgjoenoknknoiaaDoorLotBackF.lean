/-
The law LotBack returns true for every input that can be read as data, and leaves its arguments as they were: the row, and the card that ties the listed variables to the program's text.
No condition of its own beyond those that the given row prints.
-/
import Derived.HandedShaped
import Derived.Handed
import Derived.Test.YtgjoenoknknoiaaDoorCards
import Derived.Test.YtgjoenoknknoiaaDoorTie
import Derived.ProofKit
import Derived.OpenShut
import Derived.ShutString
import Derived.ChangeOld
import Derived.SizedLaws
import Derived.LaidMore
import Derived.Lay
import Derived.MakeChecks
import Derived.SevenTiedAt
import Derived.LaidSub
import Derived.LaidOnce
import Derived.Stop.Joined
import Derived.Stop.LaidErr
import Derived.Test.YtgjoenoknknoiaaDoorLotBackE
set_option linter.unusedVariables false
set_option linter.unusedSimpArgs false
namespace Go.Proofs.YtgjoenoknknoiaaDoor.PL
open Go Go.RowKit Go.Proofs.YtgjoenoknknoiaaDoorW.PrintWords Go.Proofs.YtgjoenoknknoiaaDoorW.PrintLast Go.Proofs.YtgjoenoknknoiaaDoorW.PrintMore Go.Proofs.YtgjoenoknknoiaaDoor.Pr Go.Proofs.YtgjoenoknknoiaaDoor.Opn Go.Proofs.YtgjoenoknknoiaaDoor.TX Go.Proofs.YtgjoenoknknoiaaDoor.X
theorem itoa_no {n : Int} (h0 : 0 ≤ n) {c : UInt8} (hc : isDig c = false) : c ∉ Lib.itoa n := by
  rw [itoa_dig h0]
  exact digit_not (digits_all _) hc
def wordsT : List S35 → List (List UInt8)
  | [] => []
  | s :: r => wFill :: Lib.itoa s.f0 :: wAlc :: Lib.itoa s.f1 :: wordsT r
def numsT : List S35 → List Int
  | [] => []
  | s :: r => s.f0 :: s.f1 :: numsT r
theorem parts_parts : ∀ (l : List S35) (p : List UInt8), (∀ s, s ∈ l → Ok35 s) → 32 ∉ p → parts 32 (p ++ partsT l) = p :: wordsT l
  | [], p, _, hp => by simp only [partsT, List.append_nil, wordsT]; exact parts_no 32 p hp
  | s :: r, p, h, hp => by
    have hs := h s (by simp)
    have hs2 := hs
    unfold Ok35 at hs2
    have i0 := itoa_no (n := s.f0) (by omega) (c := 32) rfl
    have i1 := itoa_no (n := s.f1) (by omega) (c := 32) rfl
    have e : p ++ partsT (s :: r) = p ++ 32 :: (wFill ++ 32 :: (Lib.itoa s.f0 ++ 32 :: (wAlc ++ 32 :: (Lib.itoa s.f1 ++ partsT r)))) := by
      simp [partsT, partT, wFill, wAlc]
    rw [e, parts_app 32 p _ hp, parts_app 32 wFill _ (by decide), parts_app 32 _ _ i0, parts_app 32 wAlc _ (by decide), parts_parts r _ (fun z hz => h z (by simp [hz])) i1]
    rfl
theorem pairs_words : ∀ (l : List S35), (∀ s, s ∈ l → Ok35 s) → pairsL wFill wAlc (wordsT l) = some (numsT l)
  | [], _ => rfl
  | s :: r, h => by
    have hs := h s (by simp)
    unfold Ok35 at hs
    show pairsL wFill wAlc (wFill :: Lib.itoa s.f0 :: wAlc :: Lib.itoa s.f1 :: wordsT r) = _
    rw [pairsL_two, if_pos rfl, itoa_num (by omega) (by omega)]
    simp only []
    rw [if_pos trivial, itoa_num (by omega) (by omega)]
    simp only []
    rw [pairs_words r (fun z hz => h z (by simp [hz]))]
    simp only [numsT, Option.some.injEq, List.cons.injEq, and_true]
    omega
theorem shares_nums : ∀ l : List S35, sharesT (numsT l) = l
  | [] => rfl
  | s :: r => by
    show (⟨s.f0, s.f1⟩ : S35) :: sharesT (numsT r) = s :: r
    rw [shares_nums r]
theorem wordsT_len : ∀ l : List S35, (wordsT l).length = 4 * l.length
  | [] => rfl
  | s :: r => by have := wordsT_len r; simp only [wordsT, List.length_cons]; omega
/-- A line that was printed is read. -/
theorem line_back {x : S33} (h : IdP x) (hf : FineP x) : lineL (lineT x) = some x := by
  have hp := hf.1
  have hi := h
  unfold IdP at hi
  unfold PlainP at hp
  have i0 := itoa_no (n := x.f0) (by omega) (c := 32) rfl
  have i1 := itoa_no (n := x.f1.f1) (by omega) (c := 32) rfl
  have e : lineT x = wLot ++ 32 :: (Lib.itoa x.f0 ++ 32 :: (wMass ++ 32 :: (Lib.itoa x.f1.f1 ++ partsT x.f2))) := by
    simp [lineT, headT, wLot, wMass]
  have hw : parts 32 (lineT x) = wLot :: Lib.itoa x.f0 :: wMass :: Lib.itoa x.f1.f1 :: wordsT x.f2 := by
    rw [e, parts_app 32 wLot _ (by decide), parts_app 32 _ _ i0, parts_app 32 wMass _ (by decide), parts_parts x.f2 _ hf.2.2.1 i1]
  have hl := wordsT_len x.f2
  unfold lineL readL
  rw [hw, if_neg (by simp only [List.length_cons]; omega)]
  have t4 : (wLot :: Lib.itoa x.f0 :: wMass :: Lib.itoa x.f1.f1 :: wordsT x.f2).take 4 = [wLot, Lib.itoa x.f0, wMass, Lib.itoa x.f1.f1] := rfl
  have d4 : (wLot :: Lib.itoa x.f0 :: wMass :: Lib.itoa x.f1.f1 :: wordsT x.f2).drop 4 = wordsT x.f2 := rfl
  rw [t4, d4, pairsL_two, if_pos rfl, itoa_num (by omega) (by omega)]
  simp only []
  rw [if_pos trivial, itoa_num (by omega) (by omega), pairs_words x.f2 hf.2.2.1]
  simp only [pairsL]
  rw [shares_nums, hf.2.2.2]
  have r0 : rd [((x.f0.toNat : Nat) : Int), ((x.f1.f1.toNat : Nat) : Int)] 0 = x.f0 := by
    show ((x.f0.toNat : Nat) : Int) = x.f0; omega
  have r1 : rd [((x.f0.toNat : Nat) : Int), ((x.f1.f1.toNat : Nat) : Int)] 1 = x.f1.f1 := by
    show ((x.f1.f1.toNat : Nat) : Int) = x.f1.f1; omega
  rw [r0, r1]
theorem partsT_no : ∀ l : List S35, (∀ s, s ∈ l → Ok35 s) → (10 : UInt8) ∉ partsT l
  | [], _ => by simp [partsT]
  | s :: r, h => by
    have hs := h s (by simp)
    unfold Ok35 at hs
    have i0 := itoa_no (n := s.f0) (by omega) (c := 10) rfl
    have i1 := itoa_no (n := s.f1) (by omega) (c := 10) rfl
    have ih := partsT_no r (fun z hz => h z (by simp [hz]))
    simp only [partsT, partT, List.mem_append, not_or]
    exact ⟨⟨⟨⟨by decide, i0⟩, by decide⟩, i1⟩, ih⟩
theorem lineT_no {x : S33} (h : IdP x) (hf : FineP x) : (10 : UInt8) ∉ lineT x := by
  have hp := hf.1
  unfold IdP at h
  unfold PlainP at hp
  have i0 := itoa_no (n := x.f0) (by omega) (c := 10) rfl
  have i1 := itoa_no (n := x.f1.f1) (by omega) (c := 10) rfl
  simp only [lineT, headT, List.mem_append, not_or]
  exact ⟨⟨⟨⟨by decide, i0⟩, by decide⟩, i1⟩, partsT_no x.f2 hf.2.2.1⟩
theorem lin_print : ∀ l : List S33, (∀ x, x ∈ l → IdP x ∧ FineP x) → lin [] (printL l) = (l.map lineT, true)
  | [], _ => rfl
  | x :: r, h => by
    have hx := h x (by simp)
    rw [lin_cut]
    show (if (cut1 10 (lineT x ++ 10 :: printL r)).2.2 = true then _ else _) = _
    rw [show printL (x :: r) = lineT x ++ 10 :: printL r from rfl, cut1_first 10 _ _ (lineT_no hx.1 hx.2)]
    simp only [if_true, List.nil_append]
    rw [lin_print r (fun z hz => h z (by simp [hz]))]
    rfl
theorem run_print (e : Bool) (he : e = true) : ∀ (l out : List S33), (∀ x, x ∈ l → IdP x ∧ FineP x) → run e (l.map lineT) out = (out ++ l, none)
  | [], out, _ => by simp [run]
  | x :: r, out, h => by
    have hx := h x (by simp)
    rw [List.map_cons, run_cons, line_back hx.1 hx.2]
    simp only []
    rw [if_neg (by rw [he]; simp), run_print e he r (out ++ [x]) (fun z hz => h z (by simp [hz]))]
    simp
theorem glue_words : ∀ (n : Nat) (rest : List (List UInt8)) (p : List UInt8) (t : List Int), rest.length ≤ n → pairsL wFill wAlc rest = some t → rest.length % 4 = 0 → glue 32 (p :: rest) = p ++ partsT (sharesT t)
  | _, [], p, t, _, h, _ => by
    obtain rfl := Option.some.inj h
    simp [glue, sharesT, partsT]
  | _, [_], p, t, _, h, hm => by simp at hm
  | _, [_, _], p, t, _, h, hm => by simp at hm
  | _, [_, _, _], p, t, _, h, hm => by simp at hm
  | 0, _ :: _ :: _ :: _ :: _, p, t, hn, h, _ => by simp at hn
  | n + 1, a :: b :: c :: d :: r, p, t, hn, h, hm => by
    rw [pairsL_two] at h
    by_cases c1 : a = wFill
    · rw [if_pos c1] at h
      cases v1 : numP 15 b with
      | none => rw [v1] at h; cases h
      | some x1 =>
        rw [v1] at h
        simp only [] at h
        by_cases c2 : c = wAlc
        · rw [if_pos c2] at h
          cases v3 : numP 15 d with
          | none => rw [v3] at h; cases h
          | some x3 =>
            rw [v3] at h
            simp only [] at h
            cases hp : pairsL wFill wAlc r with
            | none => rw [hp] at h; cases h
            | some u =>
              rw [hp] at h
              obtain rfl := Option.some.inj h
              have ih := glue_words n r d u (by simp at hn; omega) hp (by simp at hm; omega)
              have e1 := (numP_text v1).1
              have e3 := (numP_text v3).1
              have g : glue 32 (p :: a :: b :: c :: d :: r) = p ++ 32 :: (a ++ 32 :: (b ++ 32 :: (c ++ 32 :: glue 32 (d :: r)))) := rfl
              have k1 : Lib.itoa (x1 : Int) = b := by rw [itoa_dig (by omega), Int.toNat_natCast]; exact e1
              have k3 : Lib.itoa (x3 : Int) = d := by rw [itoa_dig (by omega), Int.toNat_natCast]; exact e3
              rw [g, ih, c1, c2]
              simp only [sharesT, partsT, partT, k1, k3, wFill, wAlc]
              simp
        · rw [if_neg c2] at h; cases h
    · rw [if_neg c1] at h; cases h
theorem line_again {l : List UInt8} {x : S33} (h : lineL l = some x) : lineT x = l := by
  unfold lineL readL at h
  have hg := glue_parts 32 l
  generalize parts 32 l = ws at h hg
  by_cases c : ws.length < 4 ∨ ws.length % 4 ≠ 0
  · rw [if_pos c] at h; cases h
  · rw [if_neg c] at h
    obtain ⟨a, b, w, d, r, rfl⟩ := four ws (by omega)
    have t4 : (a :: b :: w :: d :: r).take 4 = [a, b, w, d] := rfl
    have d4 : (a :: b :: w :: d :: r).drop 4 = r := rfl
    rw [t4, d4, pairsL_two] at h
    by_cases c1 : a = wLot
    · rw [if_pos c1] at h
      cases v1 : numP 15 b with
      | none => rw [v1] at h; cases h
      | some x1 =>
        rw [v1] at h
        simp only [] at h
        by_cases c2 : w = wMass
        · rw [if_pos c2] at h
          cases v3 : numP 15 d with
          | none => rw [v3] at h; cases h
          | some x3 =>
            rw [v3] at h
            simp only [pairsL] at h
            cases hp : pairsL wFill wAlc r with
            | none => rw [hp] at h; cases h
            | some t =>
              rw [hp] at h
              obtain rfl := Option.some.inj h
              have gr := glue_words _ r d t (Nat.le_refl _) hp (by simp at c; omega)
              have k1 : Lib.itoa (x1 : Int) = b := by rw [itoa_dig (by omega), Int.toNat_natCast]; exact (numP_text v1).1
              have k3 : Lib.itoa (x3 : Int) = d := by rw [itoa_dig (by omega), Int.toNat_natCast]; exact (numP_text v3).1
              have g : glue 32 (a :: b :: w :: d :: r) = a ++ 32 :: (b ++ 32 :: (w ++ 32 :: glue 32 (d :: r))) := rfl
              rw [← hg, g, gr, c1, c2]
              have r0 : rd [(x1 : Int), (x3 : Int)] 0 = (x1 : Int) := rfl
              have r1 : rd [(x1 : Int), (x3 : Int)] 1 = (x3 : Int) := rfl
              simp only [lineT, headT, r0, r1, k1, k3, wLot, wMass]
              simp
        · rw [if_neg c2] at h; cases h
    · rw [if_neg c1] at h; cases h
theorem run_again (e : Bool) : ∀ (ls : List (List UInt8)) (s : List UInt8) (out o : List S33), lin [] s = (ls, e) → run e ls out = (o, none) → ∃ xs, o = out ++ xs ∧ printL xs = s
  | [], s, out, o, h, hr => by
    obtain ⟨rfl, _⟩ := lin_nil h
    have := congrArg Prod.fst hr
    exact ⟨[], by simp [run] at this ⊢; exact this.symm, rfl⟩
  | l :: r, s, out, o, h, hr => by
    obtain ⟨e1, e2, _⟩ := lin_next h
    rw [run_cons] at hr
    cases hx : lineL l with
    | none => rw [hx] at hr; simp at hr
    | some x =>
      rw [hx] at hr
      simp only [] at hr
      by_cases c : r = [] ∧ e = false
      · rw [if_pos c] at hr; simp at hr
      · rw [if_neg c] at hr
        rcases e2 with ⟨cf, hrest⟩ | ⟨_, h1, h2⟩
        · obtain ⟨xs, g1, g2⟩ := run_again e r _ (out ++ [x]) o hrest hr
          refine ⟨x :: xs, by rw [g1]; simp, ?_⟩
          show lineT x ++ 10 :: printL xs = s
          rw [g2, line_again hx, ← e1]
          exact (cut1_sum 10 s cf).symm
        · exact absurd ⟨h1, h2⟩ c
end Go.Proofs.YtgjoenoknknoiaaDoor.PL
namespace Go.Proofs.YtgjoenoknknoiaaDoor.Pure
open Go.RowKit Go.Proofs.YtgjoenoknknoiaaDoorW.PrintWords Go.Proofs.YtgjoenoknknoiaaDoorW.PrintLast Go.Proofs.YtgjoenoknknoiaaDoorW.PrintMore Go.Proofs.YtgjoenoknknoiaaDoor.Pr Go.Proofs.YtgjoenoknknoiaaDoor.Opn Go.Proofs.YtgjoenoknknoiaaDoor.X Go.Proofs.YtgjoenoknknoiaaDoor.PL Go.Proofs.YtgjoenoknknoiaaDoor.TX
theorem again_ev (s : ByteArray) (hs : s.size ≤ 65536) : Ev (fun k => spilelaw22_LotBack.j1 k s) true := by
  obtain ⟨r, r1, _, r3⟩ := parse_both s hs
  refine Ev.step (fun k => spilelaw22_LotBack.j1.eq_2 ..) (evb r1 ?_)
  cases hrun : run (lin [] s.data.toList).2 (lin [] s.data.toList).1 [] with
  | mk o st =>
    rw [hrun] at r3
    cases st with
    | some i =>
      rw [show r = ([], (i : Int), 3) from r3]
      exact evn (show ¬ (3 : Int) = 0 by decide) (evr (by simp))
    | none =>
      obtain ⟨⟨c, e, hc⟩, hg⟩ := r3
      rw [e]
      unfold fin
      by_cases q : c.2 = 0
      · rw [if_pos q]
        have hr := hc.1 q
        obtain ⟨p, p1, _, p3, _⟩ := print_both o (by have := hr.1; omega) hg
        rw [p3 hr] at p1
        obtain ⟨xs, g1, g2⟩ := run_again _ _ s.data.toList [] o rfl hrun
        rw [List.nil_append] at g1
        refine evp rfl (evb p1 (evp rfl (evr ?_)))
        rw [g1, g2, ba_data]
        simp
      · rw [if_neg q]
        exact evn q (evr (by simp))
theorem LotBack : lotBackPure := by
  intro l s hl hs
  refine Ev.rounds ?_
  have hn := len_le hl.1
  obtain ⟨t, f1, f2⟩ := few_ev l hn
  have hw0 := wf_all l hl
  have hw : ∀ x, x ∈ l → Wf33 x := fun x hx => by
    obtain ⟨i, h0, h1, rfl⟩ := mem_rd33 hx
    exact hw0 i h0 h1
  have haw : Ev (fun _ : Nat => spilelaw22_awake.f) true := Ev.now _
  cases t with
  | false => exact evb haw (evp rfl (evb f1 (evn (by simp) (Ev.step (fun k => spilelaw22_LotBack.j0.eq_2 ..) (evp rfl (Ev.now _))))))
  | true =>
    refine evb haw (evp rfl (evb f1 (evp rfl ?_)))
    by_cases c : (s.size : Int) > 1000
    · rw [decide_eq_true c]
      exact Ev.step (fun k => spilelaw22_LotBack.j0.eq_2 ..) (evp rfl (Ev.now _))
    · rw [decide_eq_false c]
      have again := again_ev s (by omega)
      obtain ⟨p, p1, _, p3, p4⟩ := print_both l hn hw
      refine Ev.step (fun k => spilelaw22_LotBack.j0.eq_2 ..) (evn (by simp) (evb p1 ?_))
      by_cases hr : RightL l
      · rw [p3 hr]
        have hf := right_fine hw hr
        have hlen := printL_len l hf
        obtain ⟨r, r1, _, r3⟩ := parse_both (ba (printL l)) (by rw [ba_size]; have := hr.1; omega)
        rw [ba_list, lin_print l hf, run_print true rfl l [] hf, List.nil_append] at r3
        obtain ⟨⟨c, e, hc⟩, _⟩ := r3
        have q := hc.2 hr
        have e2 : r = (l, -1, 0) := by rw [e]; unfold fin; rw [if_pos q]
        rw [e2] at r1
        have same := same_ev l hn (fun y hy => by have := (hf y hy).2.2.1; omega)
        exact evp rfl (evb r1 (evp rfl (evp rfl (evb same (evp rfl again)))))
      · rw [p4 hr]
        exact evn (by decide) (evp (by rw [ba_toList]) again)
end Go.Proofs.YtgjoenoknknoiaaDoor.Pure
namespace Go.Proofs.YtgjoenoknknoiaaDoor.X
open Go
variable {H : Type} {enc : TypeId × Value → H}
theorem wrap_shaped {a : Assume} {C : Checked} {os : Os} {f : FuncId} {fn : Func} {s : ChangeSpec} {conds : List PathCond} {apart fresh handsOn again : Bool} {X : World → Array Value → Prop}
    (hX : ∀ (w w' : World) (args : Array Value), w.heap = w'.heap → X w args → X w' args)
    (own : ownKnob C.prog.godebug = none) (started : os.Started) (noInit : C.prog.inits.idxOf? f = none) (hfn : C.prog.funcs[f]? = some fn)
    (witness : ∃ (w : World) (tape : Tape) (i : Input), w.os = os ∧ (w.forCall tape i).Shaped C.prog ∧ i.vars = [] ∧ Input.okWide C.prog (w.forCall tape i) .any w.heap.size f i ∧
      ((s.pre enc C.prog fn conds apart (w.forCall tape i).memory i.args ∧ X (w.forCall tape i).memory i.args) ∧ sizedMet enc C.prog fn (OpenSpec.ofChange s) apart (w.forCall tape i).memory i.args) ∧ a.holds C.prog (lone (Frame.enter C.prog f i.args .normal) [] (w.forCall tape i)))
    (walk : ∀ (W : World) (base : Nat) (args : Array Value) (ds gs : List (DataW H)) (before : List MemPlace),
      (∀ (j : Nat) t v, fn.params[j]? = some t → args[j]? = some v → Value.okWide C.prog W .any base t v) →
      DataW.Whole enc C.prog fn.params.toList s.vars apart W args.toList ds gs before → X W args → W.ShapedOpen C.prog →
      Calls C.prog f args W fun e W' => ∃ v, e = .returned v ∧ s.post enc C.prog fn apart fresh handsOn again W args v W') :
    ReturnsInHanded a C os f .any (fun w args => (s.pre enc C.prog fn conds apart w args ∧ X w args) ∧ sizedMet enc C.prog fn (OpenSpec.ofChange s) apart w args) (s.post enc C.prog fn apart fresh handsOn again) := by
  refine returnsInHanded_of_calls own started noInit witness ?_
  intro w tape i _ hsh _ hok hpre _
  obtain ⟨_, _, _, fn', hfn', _, _, _, _, hval⟩ := hok
  obtain rfl : fn' = fn := Option.some.inj (hfn'.symm.trans hfn)
  obtain ⟨⟨⟨ds, gs, before, hw, _⟩, hx⟩, _⟩ := hpre
  refine (walk (w.forCall tape i) w.heap.size i.args ds gs before hval (DataW.Whole.of_heap (w' := w.forCall tape i) (by rfl) hw) (hX _ _ _ (by rfl) hx) hsh).mono fun e W' ⟨v, he, hp⟩ => ?_
  subst he
  exact ChangeSpec.post_blind hp
end Go.Proofs.YtgjoenoknknoiaaDoor.X
namespace Go.Proofs.YtgjoenoknknoiaaDoor.lotBack
open Go Go.ChangeShapes Go.WideShapes Go.ChangeAt Go.RowKit
open Go.ChangeMaps (open_string shut_string)
open Go.Proofs.YtgjoenoknknoiaaDoorW.PrintWords Go.Proofs.YtgjoenoknknoiaaDoor.O Go.Proofs.YtgjoenoknknoiaaDoor.Opn Go.Proofs.YtgjoenoknknoiaaDoor.Pr Go.Proofs.YtgjoenoknknoiaaDoor.X
theorem own : ownKnob Tryd.prog.godebug = none := by kernel_rfl
theorem laidOut : laidOutB Tryd.prog = true := by kernel_rfl
abbrev laidL : List (String × DataW Unit) := [("math/bits.deBruijn32tab", Rows.laid_math_bits_deBruijn32tab), ("math/bits.deBruijn64tab", Rows.laid_math_bits_deBruijn64tab), ("internal/strconv.uint64pow10", Rows.laid_internal_strconv_uint64pow10), ("unicode/utf8.acceptRanges", Rows.laid_unicode_utf8_acceptRanges), ("strconv.ErrRange", Rows.laid_strconv_ErrRange), ("strconv.ErrSyntax", Rows.laid_strconv_ErrSyntax), ("unicode/utf8.first", Rows.laid_unicode_utf8_first)]
set_option maxRecDepth 100000 in
theorem lifted (os : Os) (started : os.Started) (H : Type) (enc : TypeId × Value → H) :
    ReturnsInHanded {} Tryd.checked os 9 .any (fun w args => (Rows.lotBackSpec.pre enc Tryd.prog Tryd.f9 [] false w args ∧ laidMetH Tryd.prog laidL w) ∧ sizedMet enc Tryd.prog Tryd.f9 (OpenSpec.ofChange Rows.lotBackSpec) false w args)
      (Rows.lotBackSpec.post enc Tryd.prog Tryd.f9 false true false false) := by
  refine wrap_shaped (C := Tryd.checked) (X := (fun w _ => laidMetH Tryd.prog laidL w)) (fun _ _ _ hh h => h.of_heap hh) own started (by kernel_rfl) Tryd.func9
    (ChangeSpec.witness_shaped (enc := enc) (C := Tryd.checked) (os := os) (X := (fun w _ => laidMetH Tryd.prog laidL w)) false (World.laidAll Tryd.prog os laidL) #[.slice none 0 0, .string ByteArray.empty] 8 (World.laidAll_os _ _ _) (World.shaped_of_ZipB (by kernel_rfl) (by kernel_rfl)) (by kernel_rfl) (by kernel_rfl) (by kernel_rfl) (by rw [MakeChecks.laidMetH_plain _ _ _ (by kernel_rfl)]; exact laidMet_laidAll _ (by kernel_rfl) (by kernel_rfl))) ?_
  intro W base args ds gs before hval0 hW hL hsh
  have hval : ∀ (j : Nat) t v, Tryd.f9.params[j]? = some t → args[j]? = some v → Value.okWide Tryd.prog W .any base t v := hval0
  have hW' := hW
  obtain ⟨p, q, hA0, hV, rfl, hfz, hnd⟩ := hW
  have hA : DataW.TrodAll enc Tryd.prog W 0 (fun _ => true) true Tryd.f9.params.toList args.toList ds p := hA0
  rw [Tryd.params9] at hA hval
  obtain ⟨v0, vs0, d0, ds0, p0, q0, hargs, rfl, rfl, h0, r0⟩ := trodAll_cons hA
  obtain ⟨v1, vs1, d1, ds1, p1, q1, rfl, rfl, rfl, h1, r1⟩ := trodAll_cons r0
  obtain ⟨rfl, rfl, rfl⟩ := trodAll_nil r1
  obtain rfl : args = #[v0, v1] := by cases args; simp_all
  obtain ⟨rfl, rfl⟩ := trodVars_none hV
  obtain ⟨a0_, len0_, cap0_, rfl⟩ := okWide_slice Tryd.underlying22 (hval 0 22 v0 rfl rfl)
  have k0 := h0
  have lt0 : ∀ x ∈ p0, x.block < W.heap.size := by obtain ⟨m, hm⟩ := k0; exact DataW.trod_lt m _ _ _ hm
  obtain ⟨l0, K0, ok0⟩ : ∃ x, (Kd.slice 33 k33).K W x [.slice a0_ len0_ cap0_] ∧ (x.length ≤ maxLen ∧ ∀ x0_, x0_ ∈ x → ok33 x0_) := by
    obtain ⟨fuel, hf⟩ := h0
    exact opens22.2 _ _ _ _ _ _ _ _ _ hf
  obtain ⟨A0, c0, e0, g0, hr0⟩ := K0
  simp only [List.cons.injEq, Value.slice.injEq, and_true] at e0
  obtain ⟨rfl, rfl, rfl⟩ := e0
  obtain ⟨a1, rfl, rfl, rfl, y1⟩ := open_string Tryd.underlying9 (hval 1 9 v1 rfl rfl) h1
  clear hA0 hval0
  obtain ⟨k, hp⟩ := Pure.LotBack l0 a1 ok0 y1
  have hG : GI W := GI.of_laid laidL (by simp [laidL]) (by simp [laidL]) (by simp [laidL]) hL hsh
  refine (spilelaw22_LotBack.calls k _ _ l0 a1 true W hr0 g0 hG rfl hp).mono fun e W' ⟨he, bel⟩ => ?_
  subst he
  exact ⟨_, rfl, _, _, _, [], _, [], hW', trodAll_mk1 (shut_bool Tryd.underlying4 _), (trodAll_cons_mk (Below.trod laidOut (by kernel_rfl) (of_decide_eq_true (by kernel_rfl)) k0 bel lt0) (trodAll_cons_mk (shut_string Tryd.underlying9 y1) trodAll_mk0)), rfl, bel.frame _, fun h => by cases h⟩
theorem holds : Rows.LotBackSaid :=
  OpenClaim.holds_of_wide 9 Tryd.f9 rfl rfl rfl rfl rfl rfl rfl ⟨rfl, rfl, rfl, rfl, rfl⟩ rfl rfl rfl rfl rfl (by kernel_rfl) Tryd.func9 (by kernel_rfl)
    (of_decide_eq_true (by kernel_rfl)) (by unfold Func.isWrapper; first | (rw [if_pos (by decide +kernel)]; kernel_rfl) | (rw [if_neg (by decide +kernel)]; exact ⟨rfl, rfl⟩))
    (fun os started H enc _ => lifted os started H enc)
theorem card : Rows.LotBackCardSaid :=
  Claim7.holds_tied_plain_at .later [] [.data, .data, .data, .data, .sentinel, .sentinel, .pinned] true (true, "6d3d5d07b3fa15e36186e74d1341de65e21d118781572820ba764e384a48d39d") true
    holds (fun _ h => by cases h) (by kernel_rfl) (fun _ h => by cases h) lotBack_row_tie rfl ⟨rfl, rfl⟩ (by kernel_rfl) rfl
    (fun f fn hf hfn => by
      obtain rfl : f = 9 := Option.some.inj ((show Tryd.prog.funcNamed "spile/spilelaw22.LotBack" = some 9 by kernel_rfl).symm.trans hf) |>.symm
      obtain rfl : fn = Tryd.f9 := (Option.some.inj (Tryd.func9.symm.trans hfn)).symm
      exact ⟨by kernel_rfl, fun j t ht => by
        rw [Tryd.params9] at ht
        have hm : t ∈ [22, 9] := by simpa using Array.mem_of_getElem? ht
        have hall : ([22, 9].all fun u => !Tryd.prog.wantsStandIn u) = true := by kernel_rfl
        exact (show Tryd.prog.wantsStandIn t = false by simpa using List.all_eq_true.1 hall t hm)⟩)
    (by kernel_rfl)
end Go.Proofs.YtgjoenoknknoiaaDoor.lotBack
namespace Go.Proofs.YtgjoenoknknoiaaDoor
/-- The card, under a short name, for the claim. -/
theorem lotBack_holds : Rows.LotBackCardSaid := lotBack.card
#print axioms lotBack_holds
end Go.Proofs.YtgjoenoknknoiaaDoor
