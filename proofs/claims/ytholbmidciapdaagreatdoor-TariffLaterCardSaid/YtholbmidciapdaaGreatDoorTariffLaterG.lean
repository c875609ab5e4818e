/-
The law TariffLater returns true for every input that can be read as data, and leaves its arguments as they were: the row, and the card that ties the listed variables to the program's text.
No condition of its own beyond those that the given row prints.
-/
import Derived.HandedShaped
import Derived.Handed
import Derived.Test.YtholbmidciapdaaGreatDoorCards
import Derived.Test.YtholbmidciapdaaGreatDoorTie
import Derived.ProofKit
import Derived.OpenShut
import Derived.ShutString
import Derived.ChangeOld
import Derived.SizedLaws
import Derived.LaidMore
import Derived.Lay
import Derived.MakeChecks
import Derived.SevenTiedAt
import Derived.LaidSub
import Derived.LaidOnce
import Derived.Stop.Joined
import Derived.Stop.LaidErr
import Derived.Test.YtholbmidciapdaaGreatDoorTariffLaterF
set_option linter.unusedVariables false
set_option linter.unusedSimpArgs false
namespace Go.Proofs.YtholbmidciapdaaGreatDoor.PL
open Go Go.RowKit Go.Proofs.YtholbmidciapdaaGreatDoorW.PrintWords Go.Proofs.YtholbmidciapdaaGreatDoorW.PrintLast Go.Proofs.YtholbmidciapdaaGreatDoorW.PrintMore Go.Proofs.YtholbmidciapdaaGreatDoor.Pr Go.Proofs.YtholbmidciapdaaGreatDoor.X
instance (R : Int) (l : List S26) : Decidable (OKT R l) := by unfold OKT; infer_instance
def F4 (s : S26 × Bool) : Int × Int × Int × Bool := (s.1.f0, s.1.f1, s.1.f2, s.2)
def G4 (s : S26 × Bool) : Int × Int × Int × Int := if s.2 = true then (s.1.f0, s.1.f1, s.1.f2, 0) else (0, 0, 0, 7)
theorem frc_cons (c d : Int) (x : S26) (r : List S26) (s : S26 × Bool) : frc c d (x :: r) s = frc c d r (if Hit c d x then (x, true) else s) := rfl
theorem force_loop (l : List S26) (hl : (l.length : Int) ≤ 65) (R c d : Int) : ∀ i, 0 ≤ i → i ≤ (l.length : Int) → ∀ s : S26 × Bool,
    Ev (fun k => tariff_force.l0 k c d s.2 l (l.length : Int) i s.1.f0 s.1.f1 s.1.f2) (F4 (frc c d (l.drop i.toNat) s)) ∧
    Ev (fun k => spileref46_Force.l0 k c d s.2 i R l s.1.f0 s.1.f1 s.1.f2) (F4 (frc c d (l.drop i.toNat) s)) := by
  refine count_up 0 (l.length : Int) _ ?_ ?_
  · intro s
    rw [List.drop_eq_nil_of_le (by omega)]
    exact ⟨Ev.step (fun k => tariff_force.l0.eq_2 ..) (evn (by omega) (Ev.now _)), Ev.step (fun k => spileref46_Force.l0.eq_2 ..) (evn (by omega) (Ev.now _))⟩
  · intro i h0 h1 ih s
    have hw := w64_succ h0 h1 (by omega)
    rw [drop26 h0 h1, frc_cons]
    by_cases q : Hit c d (rd_T26 l i)
    · rw [if_pos q]
      obtain ⟨a, b⟩ := ih (rd_T26 l i, true)
      exact ⟨Ev.step (fun k => tariff_force.l0.eq_2 ..) (evp h1 (evp h0 (evp h1 (evp q.1 (evp q.2 (by rw [hw]; exact a)))))), Ev.step (fun k => spileref46_Force.l0.eq_2 ..) (evp h1 (evp h0 (evp q.1 (evp q.2 (by rw [hw]; exact b)))))⟩
    · rw [if_neg q]
      obtain ⟨a, b⟩ := ih s
      by_cases q1 : (rd_T26 l i).f0 = c
      · have q2 : ¬ (rd_T26 l i).f1 ≤ d := fun z => q ⟨q1, z⟩
        exact ⟨Ev.step (fun k => tariff_force.l0.eq_2 ..) (evp h1 (evp h0 (evp h1 (evp q1 (evn q2 (by rw [hw]; exact a)))))), Ev.step (fun k => spileref46_Force.l0.eq_2 ..) (evp h1 (evp h0 (evp q1 (evn q2 (by rw [hw]; exact b)))))⟩
      · exact ⟨Ev.step (fun k => tariff_force.l0.eq_2 ..) (evp h1 (evp h0 (evp h1 (evn q1 (by rw [hw]; exact a))))), Ev.step (fun k => spileref46_Force.l0.eq_2 ..) (evp h1 (evp h0 (evn q1 (by rw [hw]; exact b))))⟩
def s0 : S26 × Bool := (⟨0, 0, 0⟩, false)
theorem force_ev (R : Int) (l : List S26) (hl : (l.length : Int) ≤ 65) (c d : Int) : Ev (fun k => tariff_force.f k R l c d) (F4 (frc c d l s0)) := by
  have := (force_loop l hl R c d 0 (by omega) (by omega) s0).1
  rw [show (0 : Int).toNat = 0 from rfl, List.drop_zero] at this
  exact this
def InR (c d : Int) : Prop := (1 ≤ c ∧ c ≤ 9) ∧ 0 ≤ d ∧ d ≤ 100000
instance (c d : Int) : Decidable (InR c d) := by unfold InR; infer_instance
theorem within_B (a b c : Int) : EvB (fun _ => tariff_within.f a b c) (b ≤ a ∧ a ≤ c) := by
  refine ⟨fun h => evc (fun _ => rfl) ?_, fun h => evc (fun _ => rfl) ?_⟩
  · rw [within_eq, decide_eq_true h]
  · rw [within_eq, decide_eq_false h]
def atV (R : Int) (l : List S26) (c d : Int) : Int × Int × Int × Int := if OKT R l then (if InR c d then G4 (frc c d l s0) else (0, 0, 0, 2)) else (0, 0, 0, 1)
theorem at_ev (R : Int) (l : List S26) (hl : (l.length : Int) ≤ 65) (c d : Int) : Ev (fun k => tariff_At.f k R l c d) (atV R l c d) := by
  have hb := right_B R l
  have b1 := within_B c 1 9
  have b2 := within_B d 0 100000
  unfold atV
  by_cases ok : OKT R l
  case neg => rw [if_neg ok]; exact evb (hb.2 ok) (evn (by simp) (Ev.now _))
  rw [if_pos ok]
  have two : ∀ b : Bool, b = true → Ev (fun k => tariff_At.j0 k c d b R l) (0, 0, 0, 2) := fun b hb => Ev.step (fun k => tariff_At.j0.eq_2 ..) (evp hb (Ev.now _))
  refine evb (hb.1 ok) (evp rfl ?_)
  by_cases h1 : 1 ≤ c ∧ c ≤ 9
  case neg => rw [if_neg (fun q : InR c d => h1 q.1)]; exact evb (b1.2 h1) (evn (by simp) (two _ rfl))
  refine evb (b1.1 h1) (evp rfl ?_)
  by_cases h2 : 0 ≤ d ∧ d ≤ 100000
  case neg => rw [if_neg (fun q : InR c d => h2 q.2)]; exact evb (b2.2 h2) (two _ rfl)
  rw [if_pos (show InR c d from ⟨h1, h2⟩)]
  refine evb (b2.1 h2) (Ev.step (fun k => tariff_At.j0.eq_2 ..) (evn (by simp) (evb (force_ev R l hl c d) ?_)))
  by_cases q : (frc c d l s0).2 = true
  · exact evp q (evr (by unfold G4; rw [if_pos q]; rfl))
  · exact evn q (evr (by unfold G4; rw [if_neg q]))
def InS (c a b : Int) : Prop := (1 ≤ c ∧ c ≤ 9) ∧ (0 ≤ a ∧ a ≤ 100000) ∧ a ≤ b ∧ b ≤ 100000
instance (c a b : Int) : Decidable (InS c a b) := by unfold InS; infer_instance
def InD (c a b : Int) (x : S26) : Prop := x.f0 = c ∧ a ≤ x.f1 ∧ x.f1 ≤ b
instance (c a b : Int) (x : S26) : Decidable (InD c a b x) := by unfold InD; infer_instance
theorem u64W {x : Int} (h0 : 0 ≤ x) (h1 : x < 18446744073709551616) : IntKind.u64.wrap x = x := by
  unfold IntKind.wrap
  simp [IntKind.signed, IntKind.bits]
  omega
theorem rounded_eq {n R : Int} (h0 : 0 ≤ n) (h1 : n < 18446744073709551616) (r1 : 1 ≤ R) (r2 : R ≤ 4) : tariff_rounded.f n R = some (rnd R n) := by
  have e1 : Int.tmod n 10000000 = n % 10000000 := Int.tmod_eq_emod_of_nonneg h0
  have e2 : Int.tdiv n 10000000 = n / 10000000 := Int.tdiv_eq_ediv_of_nonneg h0
  have e3 : IntKind.u64.wrap (n / 10000000) = n / 10000000 := u64W (by omega) (by omega)
  have e4 : IntKind.u64.wrap (2 * (n % 10000000)) = 2 * (n % 10000000) := u64W (by omega) (by omega)
  have e5 : IntKind.u64.wrap (n / 10000000 + 1) = n / 10000000 + 1 := u64W (by omega) (by omega)
  have e6 : wrap64 (n / 10000000) = n / 10000000 := w64 (by omega) (by omega)
  have e7 : wrap64 (n / 10000000 + 1) = n / 10000000 + 1 := w64 (by omega) (by omega)
  have e8 : Int.tmod (n / 10000000) 2 = (n / 10000000) % 2 := Int.tmod_eq_emod_of_nonneg (by omega)
  unfold tariff_rounded.f
  simp only [e1, e2, e3, e4, e5, e6, e7, e8]
  unfold rnd
  repeat' split
  all_goals first | rfl | omega | (exfalso; unfold Up at *; omega)
/-- The rate in force has a right number of coins. -/
theorem at_coins {R : Int} {l : List S26} {c d : Int} (h : (atV R l c d).2.2.2 = 0) : OKT R l ∧ InR c d ∧ (frc c d l s0).2 = true ∧ (frc c d l s0).1 ∈ l ∧ atV R l c d = ((frc c d l s0).1.f0, (frc c d l s0).1.f1, (frc c d l s0).1.f2, 0) := by
  unfold atV at h ⊢
  by_cases ok : OKT R l
  case neg => rw [if_neg ok] at h; simp at h
  rw [if_pos ok] at h ⊢
  by_cases hr : InR c d
  case neg => rw [if_neg hr] at h; simp at h
  rw [if_pos hr] at h ⊢
  unfold G4 at h ⊢
  rcases frc_spec c d l s0 ok.2.2.2 with ⟨_, e⟩ | ⟨x, x1, _, e, _⟩
  · rw [e] at h; simp [s0] at h
  · rw [e]
    exact ⟨ok, hr, rfl, x1, if_pos rfl⟩
def dutyV (R : Int) (l : List S26) (c d a : Int) : Int × Int := if OKT R l then (if 0 ≤ a ∧ a ≤ 10737418240000 then (if (atV R l c d).2.2.2 = 0 then (rnd R ((atV R l c d).2.2.1 * a), 0) else (0, (atV R l c d).2.2.2)) else (0, 2)) else (0, 1)
theorem duty_ev (R : Int) (l : List S26) (hl : (l.length : Int) ≤ 65) (c d a : Int) : Ev (fun k => tariff_Duty.f k R l c d a) (dutyV R l c d a) := by
  have hb := right_B R l
  have bw := within_B a 0 10737418240000
  have ha := at_ev R l hl c d
  unfold dutyV
  by_cases ok : OKT R l
  case neg =>
    rw [if_neg ok]
    have e : atV R l c d = (0, 0, 0, 1) := by unfold atV; rw [if_neg ok]
    rw [e] at ha
    exact evb (hb.2 ok) (evn (by simp) (Ev.step (fun k => tariff_Duty.j0.eq_2 ..) (evn (by simp) (evb ha (evn (by simp) (Ev.now _))))))
  rw [if_pos ok]
  refine evb (hb.1 ok) (evp rfl ?_)
  by_cases h1 : 0 ≤ a ∧ a ≤ 10737418240000
  case neg => rw [if_neg h1]; exact evb (bw.2 h1) (Ev.step (fun k => tariff_Duty.j0.eq_2 ..) (evp rfl (Ev.now _)))
  rw [if_pos h1]
  refine evb (bw.1 h1) (Ev.step (fun k => tariff_Duty.j0.eq_2 ..) (evn (by simp) (evb ha ?_)))
  by_cases h2 : (atV R l c d).2.2.2 = 0
  case neg => exact evn h2 (evr (if_neg h2).symm)
  refine evp h2 ?_
  rw [if_pos h2]
  obtain ⟨_, _, _, hm, e⟩ := at_coins h2
  have rg := (ok.2.2.1 _ hm).2.2
  have ec : (atV R l c d).2.2.1 = (frc c d l s0).1.f2 := by rw [e]
  rw [← ec] at rg
  have m := mulb (x := (atV R l c d).2.2.1) (y := a) (X := 1000000) (Y := 10737418240000) rg.1 rg.2 h1.1 h1.2
  have er : tariff_rounded.f (IntKind.u64.wrap ((IntKind.u64.wrap ((atV R l c d).2.2.1)) * (IntKind.u64.wrap a))) R = some (rnd R ((atV R l c d).2.2.1 * a)) := by
    rw [u64W rg.1 (by omega), u64W h1.1 (by omega), u64W m.1 (by omega)]
    exact rounded_eq m.1 (by omega) ok.1.1 ok.1.2
  exact evb (evc (fun _ => rfl) er) (Ev.now _)
end Go.Proofs.YtholbmidciapdaaGreatDoor.PL
namespace Go.Proofs.YtholbmidciapdaaGreatDoor.PL
open Go Go.RowKit Go.Proofs.YtholbmidciapdaaGreatDoorW.PrintWords Go.Proofs.YtholbmidciapdaaGreatDoorW.PrintLast Go.Proofs.YtholbmidciapdaaGreatDoorW.PrintMore Go.Proofs.YtholbmidciapdaaGreatDoor.Pr Go.Proofs.YtholbmidciapdaaGreatDoor.X
theorem okt_ins {R : Int} {l : List S26} {r : S26} (ok : OKT R l) (rg : Rng r) (h : ((ins r l).length : Int) ≤ 64) : OKT R (ins r l) := by
  refine ⟨ok.1, h, fun x hx => ?_, ins_srt r l ok.2.2.2⟩
  rcases ins_sub r l x hx with rfl | hx
  · exact rg
  · exact ok.2.2.1 x hx
theorem at_ins {R : Int} {l : List S26} {r : S26} (ok : OKT R (ins r l)) (rg : Rng r) : atV R (ins r l) r.f0 r.f1 = (r.f0, r.f1, r.f2, 0) := by
  unfold atV
  rw [if_pos ok, if_pos (show InR r.f0 r.f1 from ⟨rg.1, rg.2.1⟩), frc_in r (ins r l) s0 ok.2.2.2 (ins_mem r l)]
  rfl
theorem duty_ins {R : Int} {l : List S26} {r : S26} (ok : OKT R l) (ok2 : OKT R (ins r l)) (c d a : Int) (h : ¬ Hit c d r) : dutyV R (ins r l) c d a = dutyV R l c d a := by
  have e : atV R (ins r l) c d = atV R l c d := by
    unfold atV
    rw [if_pos ok, if_pos ok2, frc_ins c d r h l s0]
  unfold dutyV
  rw [if_pos ok, if_pos ok2, e]
end Go.Proofs.YtholbmidciapdaaGreatDoor.PL
namespace Go.Proofs.YtholbmidciapdaaGreatDoor.Pure
open Go Go.RowKit Go.Proofs.YtholbmidciapdaaGreatDoorW.PrintWords Go.Proofs.YtholbmidciapdaaGreatDoorW.PrintLast Go.Proofs.YtholbmidciapdaaGreatDoorW.PrintMore Go.Proofs.YtholbmidciapdaaGreatDoor.Pr Go.Proofs.YtholbmidciapdaaGreatDoor.Opn Go.Proofs.YtholbmidciapdaaGreatDoor.X Go.Proofs.YtholbmidciapdaaGreatDoor.PL
theorem later_ev (R : Int) (l : List S26) (hn : (l.length : Int) ≤ 65) (r : S26) (c d a : Int) : Ev (fun k => spilelaw46_TariffLater.j0 k c d a false R l r.f0 r.f1 r.f2) true := by
  have hcp : Ev (fun _ : Nat => spilelaw46_cp.f R l) (R, l) := evc (fun _ => rfl) (cp_eq hn)
  obtain ⟨z, z1, z2, z3, z4⟩ := insert_ev R l r hn
  refine Ev.step (fun k => spilelaw46_TariffLater.j0.eq_2 ..) (evn (by simp) (evb hcp (evb z1 ?_)))
  by_cases ok : OKT R l
  case neg => rw [z2 ok]; exact evn (by simp) (evr (by simp))
  by_cases rg : Rng r
  case neg => rw [z3 ok rg]; exact evn (by simp) (evr (by simp))
  by_cases hlen : ((ins r l).length : Int) > 64
  · rw [z4 ok rg, if_pos hlen]; exact evn (by simp) (evr (by simp))
  rw [z4 ok rg, if_neg hlen]
  have ok2 := okt_ins ok rg (by omega)
  have hn2 : ((ins r l).length : Int) ≤ 65 := by omega
  have hcp2 : Ev (fun _ : Nat => spilelaw46_cp.f R (ins r l)) (R, ins r l) := evc (fun _ => rfl) (cp_eq hn2)
  obtain ⟨y, y1, _, _, y4⟩ := insert_ev R (ins r l) r hn2
  rw [y4 ok2 rg, ins_ins r l, if_neg hlen] at y1
  have da := at_ev R (ins r l) hn2 r.f0 r.f1
  rw [at_ins ok2 rg] at da
  obtain ⟨e, e1, _, e3, e4⟩ := check_both R (ins r l)
  have e0 := e3.2 ok2
  have em := e4 e0
  have s0_ : wrap64 ((wrap64 ((0 : Int) + 0)) + e.2) = 0 := by rw [e0]; unfold wrap64; omega
  refine evp rfl (evb hcp2 (evb y1 (evb hcp2 (evb da (evb hcp2 (evb e1 (evp s0_ (evp em (evb (same_self R (ins r l) (by omega)) (evp rfl ?_))))))))))
  have hf : (!(r.f0 == r.f0) || (!(r.f1 == r.f1) || (!(r.f2 == r.f2)))) = false := by simp
  rw [hf]
  refine Ev.step (fun k => spilelaw46_TariffLater.j1.eq_2 ..) (evn (by simp) (evb hcp (evb (duty_ev R l hn c d a) (evb hcp2 (evb (duty_ev R (ins r l) hn2 c d a) ?_)))))
  by_cases c1 : c = r.f0
  · by_cases c2 : d ≥ r.f1
    · exact evp c1 (evp c2 (Ev.now _))
    · rw [duty_ins ok ok2 c d a (fun h => c2 h.2)]
      exact evp c1 (evn c2 (evp rfl (evr (by simp))))
  · rw [duty_ins ok ok2 c d a (fun h => c1 h.1.symm)]
    exact evn c1 (evp rfl (evr (by simp)))
theorem TariffLater : tariffLaterPure := by
  intro R l r0 r1 r2 c d a hR hl h0 h1 h2 hc hd ha
  refine Ev.rounds ?_
  obtain ⟨q, hq, hq2⟩ := few_eq R l
  have haw : Ev (fun _ : Nat => spilelaw46_awake.f) true := Ev.now _
  have yes : ∀ t, t = true → Ev (fun k => spilelaw46_TariffLater.j0 k c d a t R l r0 r1 r2) true := fun t ht => Ev.step (fun k => spilelaw46_TariffLater.j0.eq_2 ..) (evp ht (evb haw (Ev.now _)))
  refine evb haw (evp rfl (evb (evc (fun _ => rfl) hq) ?_))
  cases q with
  | false => exact yes _ rfl
  | true => exact later_ev R l (hq2 rfl) ⟨r0, r1, r2⟩ c d a
end Go.Proofs.YtholbmidciapdaaGreatDoor.Pure
namespace Go.Proofs.YtholbmidciapdaaGreatDoor.X
open Go
variable {H : Type} {enc : TypeId × Value → H}
theorem wrap_shaped {a : Assume} {C : Checked} {os : Os} {f : FuncId} {fn : Func} {s : ChangeSpec} {conds : List PathCond} {apart fresh handsOn again : Bool} {X : World → Array Value → Prop}
    (hX : ∀ (w w' : World) (args : Array Value), w.heap = w'.heap → X w args → X w' args)
    (own : ownKnob C.prog.godebug = none) (started : os.Started) (noInit : C.prog.inits.idxOf? f = none) (hfn : C.prog.funcs[f]? = some fn)
    (witness : ∃ (w : World) (tape : Tape) (i : Input), w.os = os ∧ (w.forCall tape i).Shaped C.prog ∧ i.vars = [] ∧ Input.okWide C.prog (w.forCall tape i) .any w.heap.size f i ∧
      ((s.pre enc C.prog fn conds apart (w.forCall tape i).memory i.args ∧ X (w.forCall tape i).memory i.args) ∧ sizedMet enc C.prog fn (OpenSpec.ofChange s) apart (w.forCall tape i).memory i.args) ∧ a.holds C.prog (lone (Frame.enter C.prog f i.args .normal) [] (w.forCall tape i)))
    (walk : ∀ (W : World) (base : Nat) (args : Array Value) (ds gs : List (DataW H)) (before : List MemPlace),
      (∀ (j : Nat) t v, fn.params[j]? = some t → args[j]? = some v → Value.okWide C.prog W .any base t v) →
      DataW.Whole enc C.prog fn.params.toList s.vars apart W args.toList ds gs before → X W args → W.ShapedOpen C.prog →
      Calls C.prog f args W fun e W' => ∃ v, e = .returned v ∧ s.post enc C.prog fn apart fresh handsOn again W args v W') :
    ReturnsInHanded a C os f .any (fun w args => (s.pre enc C.prog fn conds apart w args ∧ X w args) ∧ sizedMet enc C.prog fn (OpenSpec.ofChange s) apart w args) (s.post enc C.prog fn apart fresh handsOn again) := by
  refine returnsInHanded_of_calls own started noInit witness ?_
  intro w tape i _ hsh _ hok hpre _
  obtain ⟨_, _, _, fn', hfn', _, _, _, _, hval⟩ := hok
  obtain rfl : fn' = fn := Option.some.inj (hfn'.symm.trans hfn)
  obtain ⟨⟨⟨ds, gs, before, hw, _⟩, hx⟩, _⟩ := hpre
  refine (walk (w.forCall tape i) w.heap.size i.args ds gs before hval (DataW.Whole.of_heap (w' := w.forCall tape i) (by rfl) hw) (hX _ _ _ (by rfl) hx) hsh).mono fun e W' ⟨v, he, hp⟩ => ?_
  subst he
  exact ChangeSpec.post_blind hp
end Go.Proofs.YtholbmidciapdaaGreatDoor.X
namespace Go.Proofs.YtholbmidciapdaaGreatDoor.tariffLater
open Go Go.ChangeShapes Go.WideShapes Go.ChangeAt Go.RowKit
open Go.ChangeMaps (open_string shut_string)
open Go.Proofs.YtholbmidciapdaaGreatDoorW.PrintWords Go.Proofs.YtholbmidciapdaaGreatDoor.O Go.Proofs.YtholbmidciapdaaGreatDoor.Opn Go.Proofs.YtholbmidciapdaaGreatDoor.Pr Go.Proofs.YtholbmidciapdaaGreatDoor.X
theorem own : ownKnob Tryz.prog.godebug = none := by kernel_rfl
theorem laidOut : laidOutB Tryz.prog = true := by kernel_rfl
abbrev laidL : List (String × DataW Unit) := [("math/bits.deBruijn32tab", Rows.laid_math_bits_deBruijn32tab), ("math/bits.deBruijn64tab", Rows.laid_math_bits_deBruijn64tab), ("internal/strconv.uint64pow10", Rows.laid_internal_strconv_uint64pow10), ("unicode/utf8.acceptRanges", Rows.laid_unicode_utf8_acceptRanges), ("strconv.ErrRange", Rows.laid_strconv_ErrRange), ("strconv.ErrSyntax", Rows.laid_strconv_ErrSyntax), ("spile/tariff.words", Rows.laid_spile_tariff_words), ("unicode/utf8.first", Rows.laid_unicode_utf8_first)]
set_option maxRecDepth 100000 in
theorem lifted (os : Os) (started : os.Started) (H : Type) (enc : TypeId × Value → H) :
    ReturnsInHanded {} Tryz.checked os 8 .any (fun w args => (Rows.tariffLaterSpec.pre enc Tryz.prog Tryz.f8 [] false w args ∧ laidMetH Tryz.prog laidL w) ∧ sizedMet enc Tryz.prog Tryz.f8 (OpenSpec.ofChange Rows.tariffLaterSpec) false w args)
      (Rows.tariffLaterSpec.post enc Tryz.prog Tryz.f8 false true false false) := by
  refine wrap_shaped (C := Tryz.checked) (X := (fun w _ => laidMetH Tryz.prog laidL w)) (fun _ _ _ hh h => h.of_heap hh) own started (by kernel_rfl) Tryz.func8
    (ChangeSpec.witness_shaped (enc := enc) (C := Tryz.checked) (os := os) (X := (fun w _ => laidMetH Tryz.prog laidL w)) false (World.laidAll Tryz.prog os laidL) #[.agg #[.int .i64 0, .slice none 0 0], .agg #[.int .i64 0, .int .i64 0, .int .i64 0], .int .i64 0, .int .i64 0, .int .i64 0] 8 (World.laidAll_os _ _ _) (World.shaped_of_ZipB (by kernel_rfl) (by kernel_rfl)) (by kernel_rfl) (by kernel_rfl) (by kernel_rfl) (by rw [MakeChecks.laidMetH_plain _ _ _ (by kernel_rfl)]; exact laidMet_laidAll _ (by kernel_rfl) (by kernel_rfl))) ?_
  intro W base args ds gs before hval0 hW hL hsh
  have hval : ∀ (j : Nat) t v, Tryz.f8.params[j]? = some t → args[j]? = some v → Value.okWide Tryz.prog W .any base t v := hval0
  have hW' := hW
  obtain ⟨p, q, hA0, hV, rfl, hfz, hnd⟩ := hW
  have hA : DataW.TrodAll enc Tryz.prog W 0 (fun _ => true) true Tryz.f8.params.toList args.toList ds p := hA0
  rw [Tryz.params8] at hA hval
  obtain ⟨v0, vs0, d0, ds0, p0, q0, hargs, rfl, rfl, h0, r0⟩ := trodAll_cons hA
  obtain ⟨v1, vs1, d1, ds1, p1, q1, rfl, rfl, rfl, h1, r1⟩ := trodAll_cons r0
  obtain ⟨v2, vs2, d2, ds2, p2, q2, rfl, rfl, rfl, h2, r2⟩ := trodAll_cons r1
  obtain ⟨v3, vs3, d3, ds3, p3, q3, rfl, rfl, rfl, h3, r3⟩ := trodAll_cons r2
  obtain ⟨v4, vs4, d4, ds4, p4, q4, rfl, rfl, rfl, h4, r4⟩ := trodAll_cons r3
  obtain ⟨rfl, rfl, rfl⟩ := trodAll_nil r4
  obtain rfl : args = #[v0, v1, v2, v3, v4] := by cases args; simp_all
  obtain ⟨rfl, rfl⟩ := trodVars_none hV
  obtain ⟨cs0, rfl, _⟩ := okWide_struct Tryz.underlying24 (hval 0 24 v0 rfl rfl)
  have k0 := h0
  have lt0 : ∀ x ∈ p0, x.block < W.heap.size := by obtain ⟨m, hm⟩ := k0; exact DataW.trod_lt m _ _ _ hm
  obtain ⟨x0, K0, ok0⟩ : ∃ x, k24.K W x cs0.toList ∧ ok24 x := by
    obtain ⟨fuel, hf⟩ := h0
    exact opens24.2 _ _ _ _ _ _ _ _ _ hf
  obtain ⟨A0_1, c0_1, e0, g0_1, hr0_1⟩ := k24_open K0
  obtain rfl : cs0 = #[.int .i64 (x0.f0), .slice A0_1 (x0.f1).length c0_1] := by cases cs0; simpa using e0
  obtain ⟨cs1, rfl, _⟩ := okWide_struct Tryz.underlying26 (hval 1 26 v1 rfl rfl)
  have k1 := h1
  have lt1 : ∀ x ∈ p1, x.block < W.heap.size := by obtain ⟨m, hm⟩ := k1; exact DataW.trod_lt m _ _ _ hm
  obtain ⟨x1, K1, ok1⟩ : ∃ x, k26.K W x cs1.toList ∧ ok26 x := by
    obtain ⟨fuel, hf⟩ := h1
    exact opens26.2 _ _ _ _ _ _ _ _ _ hf
  have e1 := k26_open K1
  obtain rfl : cs1 = #[.int .i64 (x1.f0), .int .i64 (x1.f1), .int .i64 (x1.f2)] := by cases cs1; simpa using e1
  obtain ⟨a2, rfl, rfl, rfl, w2⟩ := open_int Tryz.underlying3 (hval 2 3 v2 rfl rfl) h2
  obtain ⟨a3, rfl, rfl, rfl, w3⟩ := open_int Tryz.underlying3 (hval 3 3 v3 rfl rfl) h3
  obtain ⟨a4, rfl, rfl, rfl, w4⟩ := open_int Tryz.underlying3 (hval 4 3 v4 rfl rfl) h4
  clear hA0 hval0
  obtain ⟨k, hp⟩ := Pure.TariffLater (x0.f0) (x0.f1) (x1.f0) (x1.f1) (x1.f2) a2 a3 a4 ok0.1 ok0.2 ok1.1 ok1.2.1 ok1.2.2 w2 w3 w4
  have hG : GI W := GI.of_laid laidL (by simp [laidL]) (by simp [laidL]) (by simp [laidL]) (by simp [laidL]) hL hsh
  refine (spilelaw46_TariffLater.calls k (x0.f0) _ _ (x0.f1) (x1.f0) (x1.f1) (x1.f2) a2 a3 a4 true W hr0_1 g0_1 hG rfl hp).mono fun e W' ⟨he, bel⟩ => ?_
  subst he
  exact ⟨_, rfl, _, _, _, [], _, [], hW', trodAll_mk1 (shut_bool Tryz.underlying4 _), (trodAll_cons_mk (Below.trod laidOut (by kernel_rfl) (of_decide_eq_true (by kernel_rfl)) k0 bel lt0) (trodAll_cons_mk (Below.trod laidOut (by kernel_rfl) (of_decide_eq_true (by kernel_rfl)) k1 bel lt1) (trodAll_cons_mk (shut_int Tryz.underlying3 w2) (trodAll_cons_mk (shut_int Tryz.underlying3 w3) (trodAll_cons_mk (shut_int Tryz.underlying3 w4) trodAll_mk0))))), rfl, bel.frame _, fun h => by cases h⟩
theorem holds : Rows.TariffLaterSaid :=
  OpenClaim.holds_of_wide 8 Tryz.f8 rfl rfl rfl rfl rfl rfl rfl ⟨rfl, rfl, rfl, rfl, rfl⟩ rfl rfl rfl rfl rfl (by kernel_rfl) Tryz.func8 (by kernel_rfl)
    (of_decide_eq_true (by kernel_rfl)) (by unfold Func.isWrapper; first | (rw [if_pos (by decide +kernel)]; kernel_rfl) | (rw [if_neg (by decide +kernel)]; exact ⟨rfl, rfl⟩))
    (fun os started H enc _ => lifted os started H enc)
theorem card : Rows.TariffLaterCardSaid :=
  Claim7.holds_tied_plain_at .later [] [.data, .data, .data, .data, .sentinel, .sentinel, .widerDeep, .pinned] true (true, "e915a9bdfe9e1389aaf186e88c341004cfdabf0ce269b5d3aa2c8944f7f7b486") true
    holds (fun _ h => by cases h) (by kernel_rfl) (fun _ h => by cases h) tariffLater_row_tie rfl ⟨rfl, rfl⟩ (by kernel_rfl) rfl
    (fun f fn hf hfn => by
      obtain rfl : f = 8 := Option.some.inj ((show Tryz.prog.funcNamed "spile/spilelaw46.TariffLater" = some 8 by kernel_rfl).symm.trans hf) |>.symm
      obtain rfl : fn = Tryz.f8 := (Option.some.inj (Tryz.func8.symm.trans hfn)).symm
      exact ⟨by kernel_rfl, fun j t ht => by
        rw [Tryz.params8] at ht
        have hm : t ∈ [24, 26, 3, 3, 3] := by simpa using Array.mem_of_getElem? ht
        have hall : ([24, 26, 3, 3, 3].all fun u => !Tryz.prog.wantsStandIn u) = true := by kernel_rfl
        exact (show Tryz.prog.wantsStandIn t = false by simpa using List.all_eq_true.1 hall t hm)⟩)
    (by kernel_rfl)
end Go.Proofs.YtholbmidciapdaaGreatDoor.tariffLater
namespace Go.Proofs.YtholbmidciapdaaGreatDoor
/-- The card, under a short name, for the claim. -/
theorem tariffLater_holds : Rows.TariffLaterCardSaid := tariffLater.card
#print axioms tariffLater_holds
end Go.Proofs.YtholbmidciapdaaGreatDoor
