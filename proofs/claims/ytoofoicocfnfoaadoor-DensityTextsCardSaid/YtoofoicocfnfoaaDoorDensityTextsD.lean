/-
The law DensityTexts returns true for every input that can be read as data, and leaves its arguments as they were: the row, and the card that ties the listed variables to the program's text.
No condition of its own beyond those that the given row prints.
-/
import Derived.HandedShaped
import Derived.Handed
import Derived.Test.YtoofoicocfnfoaaDoorCards
import Derived.Test.YtoofoicocfnfoaaDoorTie
import Derived.ProofKit
import Derived.OpenShut
import Derived.ShutString
import Derived.ChangeOld
import Derived.SizedLaws
import Derived.LaidMore
import Derived.Lay
import Derived.MakeChecks
import Derived.SevenTiedAt
import Derived.LaidSub
import Derived.LaidOnce
import Derived.Stop.Joined
import Derived.Stop.LaidErr
import Derived.Test.YtoofoicocfnfoaaDoorDensityTextsC
set_option linter.unusedVariables false
set_option linter.unusedSimpArgs false
namespace Go.Proofs.YtoofoicocfnfoaaDoor.PL
open Go Go.RowKit Go.Proofs.YtoofoicocfnfoaaDoorW.PrintWords Go.Proofs.YtoofoicocfnfoaaDoorW.PrintLast Go.Proofs.YtoofoicocfnfoaaDoorW.PrintMore Go.Proofs.YtoofoicocfnfoaaDoor.Pr Go.Proofs.YtoofoicocfnfoaaDoor.Opn Go.Proofs.YtoofoicocfnfoaaDoor.TX Go.Proofs.YtoofoicocfnfoaaDoor.X
def wStr : List UInt8 := [115, 116, 114, 101, 110, 103, 116, 104]
def wDen : List UInt8 := [100, 101, 110, 115, 105, 116, 121]
/-- The row with a line. -/
def rowW : List (List UInt8) → Option S30
  | [a, b, c, d] => if a = wStr ∧ c = wDen then (match numP 6 b with
    | none => none
    | some x => match numP 6 d with
      | none => none
      | some y => some ⟨(x : Int), (y : Int)⟩) else none
  | _ => none
def lineL (l : List UInt8) : Option S30 := rowW (parts 32 l)
def lineT (x : S30) : List UInt8 := wStr ++ 32 :: (Lib.itoa x.f0 ++ 32 :: (wDen ++ 32 :: Lib.itoa x.f1))
theorem numd_ev (b : List UInt8) (hb : b.length ≤ 281474976710656) : ∃ p : Int × Bool, density_number.f (ba b) = some p ∧ (∀ v, numP 6 b = some v → p = ((v : Int), true)) ∧ (numP 6 b = none → p.2 = false) := by
  obtain ⟨n, e, h1, h2, h3⟩ := atoi_cases (ba b) (by rw [ba_size]; exact hb)
  rw [ba_list] at h2
  have ok_of : Canon b ∧ b.length ≤ 6 → e = none ∧ n = ((valFrom 0 b : Nat) : Int) := fun h => by
    have ha := atoi_of_canon h.1 (by omega)
    cases e with
    | none =>
      have := h2.1 rfl
      rw [ha] at this
      injection this with this
      exact ⟨rfl, this.symm⟩
    | some q =>
      exfalso
      unfold strconv_Atoi.f at h1
      rw [if_pos (by rw [ba_size]; exact hb), ba_list, ha] at h1
      simp at h1
  have small : Canon b ∧ b.length ≤ 6 → ((valFrom 0 b : Nat) : Int) ≤ 999999 := fun h => by
    have := numP_lt (most := 6) (s := b) (v := valFrom 0 b) (by unfold numP; rw [if_pos h])
    omega
  unfold density_number.f
  rw [h1]
  simp only [Option.bind_some]
  by_cases hc : Canon b ∧ b.length ≤ 6
  · have hv : numP 6 b = some (valFrom 0 b) := by unfold numP; rw [if_pos hc]
    obtain ⟨rfl, rfl⟩ := ok_of hc
    have hs := small hc
    refine ⟨(((valFrom 0 b : Nat) : Int), true), ?_, fun v h => ?_, fun h => ?_⟩
    · rw [if_pos (show (none : Option Int).isNone = true from rfl), if_pos (by omega), if_pos hs, itoa_f h3.1 h3.2]
      simp only [Option.bind_some]
      rw [itoa_of_canon hc.1, ba_toList, beq_self_eq_true]
    · rw [hv] at h; rw [← Option.some.inj h]
    · rw [hv] at h; cases h
  · have hv : numP 6 b = none := by unfold numP; rw [if_neg hc]
    cases e with
    | some q => exact ⟨(n, false), by rw [if_neg (by simp)], (fun v h => by rw [hv] at h; cases h), (fun _ => rfl)⟩
    | none =>
      rw [if_pos (show (none : Option Int).isNone = true from rfl)]
      by_cases c1 : n ≥ 0
      · rw [if_pos c1]
        by_cases c2 : n ≤ 999999
        · rw [if_pos c2, itoa_f h3.1 h3.2]
          simp only [Option.bind_some]
          refine ⟨_, rfl, (fun v h => by rw [hv] at h; cases h), fun _ => ?_⟩
          rw [ba_toList, ba_toList]
          show (Lib.itoa n == b) = false
          rw [beq_eq_false_iff_ne]
          intro h
          have hl := itoa_le (n := n) (m := 6) c1 (by omega) (by omega)
          rw [h] at hl
          exact hc ⟨(canon_of_atoi c1 h).1, hl⟩
        · rw [if_neg c2]; exact ⟨_, rfl, (fun v h => by rw [hv] at h; cases h), (fun _ => rfl)⟩
      · rw [if_neg c1]; exact ⟨_, rfl, (fun v h => by rw [hv] at h; cases h), (fun _ => rfl)⟩
theorem mem_parts_len {s p : List UInt8} : p ∈ parts 32 s → p.length ≤ s.length := by
  induction s generalizing p with
  | nil => intro h; simp [parts] at h; simp [h]
  | cons b r ih =>
    intro h
    rw [parts_cons] at h
    by_cases c : b = 32
    · rw [if_pos c] at h
      rcases List.mem_cons.1 h with h | h
      · simp [h]
      · have := ih h; simp; omega
    · rw [if_neg c] at h
      cases hp : parts 32 r with
      | nil => exact absurd hp (parts_ne 32 r)
      | cons q t =>
        rw [hp] at h ih
        rcases List.mem_cons.1 h with h | h
        · have := ih (p := q) (by simp); rw [h]; simp; omega
        · have := ih (p := p) (by simp [h]); simp; omega
theorem dline (l : List UInt8) (f : Bool) (hl : l.length ≤ 100000) : density_Parse.line (ba l, f) = some (if f = true then lineL l else none) := by
  unfold density_Parse.line
  have hs := split_ev (ba l) (by rw [ba_size]; omega)
  rw [ba_list] at hs
  show (strings_Split.f (ba l) ⟨#[32]⟩).bind _ = _
  rw [hs]
  simp only [Option.bind_some]
  have hm : ∀ p, p ∈ parts 32 l → p.length ≤ 281474976710656 := fun p hp => by have := mem_parts_len hp; omega
  unfold lineL
  generalize parts 32 l = ws at hm
  cases f with
  | false => rw [if_neg (by simp)]; rfl
  | true =>
    match ws with
    | [a, b, c, d] =>
      have z0 : ([a, b, c, d].map ba).getD 0 ⟨#[]⟩ = ba a := rfl
      have z1 : ([a, b, c, d].map ba).getD 1 ⟨#[]⟩ = ba b := rfl
      have z2 : ([a, b, c, d].map ba).getD 2 ⟨#[]⟩ = ba c := rfl
      have z3 : ([a, b, c, d].map ba).getD 3 ⟨#[]⟩ = ba d := rfl
      rw [z0, z1, z2, z3, ba_toList, ba_toList]
      simp only [rowW]
      by_cases h : a = wStr ∧ c = wDen
      · rw [if_pos ⟨trivial, by simp, h.1, h.2⟩, if_pos h]
        obtain ⟨p, p1, p2, p3⟩ := numd_ev b (hm b (by simp))
        obtain ⟨q, q1, q2, q3⟩ := numd_ev d (hm d (by simp))
        rw [p1, q1]
        simp only [Option.bind_some]
        cases hb : numP 6 b with
        | none => rw [if_neg (by rw [p3 hb]; simp)]; rfl
        | some x =>
          cases hd : numP 6 d with
          | none => rw [if_neg (by rw [q3 hd]; simp)]; rfl
          | some y => rw [p2 x hb, q2 y hd, if_pos ⟨rfl, rfl⟩]; rfl
      · rw [if_neg (fun q => h ⟨q.2.2.1, q.2.2.2⟩), if_neg h]; rfl
    | [] => rw [if_neg (by simp)]; rfl
    | [_] => rw [if_neg (by simp)]; rfl
    | [_, _] => rw [if_neg (by simp)]; rfl
    | [_, _, _] => rw [if_neg (by simp)]; rfl
    | _ :: _ :: _ :: _ :: _ :: r => rw [if_neg (by simp)]; rfl
theorem all_at {all : List (List UInt8)} {l : List UInt8} {r : List (List UInt8)} {n : Nat} (h : all.drop n = l :: r) : n < all.length ∧ rdOf ByteArray.empty (all.map ba) (n : Int) = ba l ∧ all.drop (n + 1) = r := by
  have hn : n < all.length := by
    rcases Nat.lt_or_ge n all.length with h' | h'
    · exact h'
    · rw [List.drop_eq_nil_of_le h'] at h; cases h
  refine ⟨hn, ?_, ?_⟩
  · unfold rdOf
    rw [List.getD_eq_getElem?_getD, Int.toNat_natCast, List.getElem?_map]
    have e : all[n]? = some l := by
      have := congrArg (·[0]?) h
      rw [List.getElem?_drop] at this
      simpa using this
    rw [e]; rfl
  · rw [← List.drop_drop, h]; rfl
theorem ref_round (e : Bool) (all : List (List UInt8)) (l : List UInt8) (r : List (List UInt8)) (out : List S30) (hd : all.drop out.length = l :: r) (hlen : out.length + (r.length + 1) = all.length) (hl : l.length ≤ 100000) (ha : all.length ≤ 1000000) :
    (lineL l = none ∨ (r = [] ∧ e = false) → Ev (fun k => spileref16_Parse.l0 k (all.map ba) e out (out.length : Int)) ([], (out.length : Int), 3)) ∧
    (∀ x, lineL l = some x → ¬ (r = [] ∧ e = false) → ∀ y, Ev (fun k => spileref16_Parse.l0 k (all.map ba) e (out ++ [x]) (((out ++ [x]).length : Nat) : Int)) y → Ev (fun k => spileref16_Parse.l0 k (all.map ba) e out (out.length : Int)) y) := by
  obtain ⟨hn, hat, _⟩ := all_at hd
  have hw := words_ev (ba l) (by rw [ba_size]; omega)
  rw [ba_list] at hw
  have hw1 : wrap64 (((all.map ba).length : Int) - 1) = (all.length : Int) - 1 := by rw [List.length_map, w64 (by omega) (by omega)]
  have hw2 : wrap64 ((out.length : Int) + 1) = (((out.length + 1 : Nat)) : Int) := by rw [w64 (by omega) (by omega)]; omega
  have lenS : ∀ x : S30, (out ++ [x]).length = out.length + 1 := fun x => by simp
  have last : ((out.length : Int) = (all.length : Int) - 1) ↔ r = [] := by
    constructor
    · intro h; exact List.eq_nil_of_length_eq_zero (by omega)
    · intro h; rw [h] at hlen; simp at hlen; omega
  unfold lineL
  generalize parts 32 l = ws at hw
  have pre : ∀ (g : Nat → Option (List S30 × Int × Int)) y, Ev g y → (∀ k, g k = (if ((ws.map ba).length : Int) = 4 then (if 0 < ((ws.map ba).length : Int) then (if (rdOf ByteArray.empty (ws.map ba) 0).toList = ([115, 116, 114, 101, 110, 103, 116, 104] : List UInt8) then (if 2 < ((ws.map ba).length : Int) then (if (rdOf ByteArray.empty (ws.map ba) 2).toList = ([100, 101, 110, 115, 105, 116, 121] : List UInt8) then (if (out.length : Int) = (all.length : Int) - 1 then (spileref16_Parse.j1 k (all.map ba) e out (out.length : Int) (ws.map ba) (!e)) else (spileref16_Parse.j1 k (all.map ba) e out (out.length : Int) (ws.map ba) false)) else (spileref16_Parse.j1 k (all.map ba) e out (out.length : Int) (ws.map ba) true)) else (none)) else (spileref16_Parse.j1 k (all.map ba) e out (out.length : Int) (ws.map ba) true)) else (none)) else (spileref16_Parse.j1 k (all.map ba) e out (out.length : Int) (ws.map ba) true))) → Ev (fun k => spileref16_Parse.l0 k (all.map ba) e out (out.length : Int)) y := by
    intro g y hg hk
    refine Ev.step (fun k => spileref16_Parse.l0.eq_2 ..) ?_
    rw [hat, hw1]
    exact evp (by rw [List.length_map]; omega) (evp (by omega) (evb hw (Ev.congr (fun k => (hk k).symm) hg)))
  have no : Ev (fun k => spileref16_Parse.j1 k (all.map ba) e out (out.length : Int) (ws.map ba) true) ([], (out.length : Int), 3) := Ev.step (fun k => spileref16_Parse.j1.eq_2 ..) (evp rfl (Ev.now _))
  have short : ws.length ≠ 4 → Ev (fun k => spileref16_Parse.l0 k (all.map ba) e out (out.length : Int)) ([], (out.length : Int), 3) := fun h =>
    pre _ _ no (fun k => by rw [if_neg (by rw [List.length_map]; omega)])
  match ws with
  | [a, b, c, d] =>
    have z0 : rdOf ByteArray.empty ([a, b, c, d].map ba) 0 = ba a := rfl
    have z1 : rdOf ByteArray.empty ([a, b, c, d].map ba) 1 = ba b := rfl
    have z2 : rdOf ByteArray.empty ([a, b, c, d].map ba) 2 = ba c := rfl
    have z3 : rdOf ByteArray.empty ([a, b, c, d].map ba) 3 = ba d := rfl
    have L4 : (([a, b, c, d].map ba).length : Int) = 4 := rfl
    rw [z0, z2, L4, ba_toList, ba_toList] at pre
    simp only [rowW]
    by_cases ha1 : a = wStr
    case neg =>
      rw [if_neg (fun q => ha1 q.1)]
      exact ⟨fun _ => pre _ _ no (fun k => by rw [if_pos rfl, if_pos (by omega), if_neg (show ¬ a = [115, 116, 114, 101, 110, 103, 116, 104] from ha1)]), fun x h => by cases h⟩
    by_cases hc1 : c = wDen
    case neg =>
      rw [if_neg (fun q => hc1 q.2)]
      exact ⟨fun _ => pre _ _ no (fun k => by rw [if_pos rfl, if_pos (by omega), if_pos (show a = [115, 116, 114, 101, 110, 103, 116, 104] from ha1), if_pos (by omega), if_neg (show ¬ c = [100, 101, 110, 115, 105, 116, 121] from hc1)]), fun x h => by cases h⟩
    rw [if_pos ⟨ha1, hc1⟩]
    by_cases hlast : r = [] ∧ e = false
    · refine ⟨fun _ => pre _ _ no (fun k => by rw [if_pos rfl, if_pos (by omega), if_pos (show a = [115, 116, 114, 101, 110, 103, 116, 104] from ha1), if_pos (by omega), if_pos (show c = [100, 101, 110, 115, 105, 116, 121] from hc1), if_pos (last.2 hlast.1), hlast.2]; rfl), fun x _ h => absurd hlast h⟩
    · have pre2 : ∀ y, Ev (fun k => spileref16_Parse.j1 k (all.map ba) e out (out.length : Int) ([a, b, c, d].map ba) false) y → Ev (fun k => spileref16_Parse.l0 k (all.map ba) e out (out.length : Int)) y := by
        intro y hy
        refine pre _ _ hy (fun k => ?_)
        rw [if_pos rfl, if_pos (by omega), if_pos (show a = [115, 116, 114, 101, 110, 103, 116, 104] from ha1), if_pos (by omega), if_pos (show c = [100, 101, 110, 115, 105, 116, 121] from hc1)]
        by_cases h : (out.length : Int) = (all.length : Int) - 1
        · rw [if_pos h]
          have hr := last.1 h
          cases e with
          | true => rfl
          | false => exact absurd ⟨hr, rfl⟩ hlast
        · rw [if_neg h]
      have nb := number_ev (ba b) 6 (by omega)
      have nd := number_ev (ba d) 6 (by omega)
      rw [ba_list] at nb nd
      have pre3 : ∀ y, Ev (fun k => if (numR 6 b).2 = true then (if (numR 6 d).2 = true then (if out.length < 8796093022208 then (spileref16_Parse.l0 k (all.map ba) e (out ++ [(⟨(numR 6 b).1, (numR 6 d).1⟩ : S30)]) (((out.length + 1 : Nat)) : Int)) else none) else (some (([] : List S30), (out.length : Int), 3))) else (some (([] : List S30), (out.length : Int), 3))) y → Ev (fun k => spileref16_Parse.l0 k (all.map ba) e out (out.length : Int)) y := by
        intro y hy
        refine pre2 y (Ev.step (fun k => spileref16_Parse.j1.eq_2 ..) ?_)
        rw [L4, z1, z3, hw2]
        exact evn (by simp) (evp (by omega) (evb nb (evp (by omega) (evb nd hy))))
      cases hb : numP 6 b with
      | none => exact ⟨fun _ => pre3 _ (evn (by simp [numR, hb]) (Ev.now _)), fun x h => by cases h⟩
      | some x1 =>
        cases hdd : numP 6 d with
        | none => exact ⟨fun _ => pre3 _ (evp (by simp [numR, hb]) (evn (by simp [numR, hdd]) (Ev.now _))), fun x h => by cases h⟩
        | some x2 =>
          refine ⟨fun h => ?_, fun x h _ y hy => ?_⟩
          · rcases h with h | h
            · cases h
            · exact absurd h hlast
          · have hx := Option.some.inj h
            rw [lenS, ← hx] at hy
            refine pre3 y (evp (by simp [numR, hb]) (evp (by simp [numR, hdd]) (evp (by omega) ?_)))
            have y1 : (numR 6 b).1 = (x1 : Int) := by simp [numR, hb]
            have y2 : (numR 6 d).1 = (x2 : Int) := by simp [numR, hdd]
            rw [y1, y2]
            exact hy
  | [] => exact ⟨fun _ => short (by simp), fun x h => by cases h⟩
  | [_] => exact ⟨fun _ => short (by simp), fun x h => by cases h⟩
  | [_, _] => exact ⟨fun _ => short (by simp), fun x h => by cases h⟩
  | [_, _, _] => exact ⟨fun _ => short (by simp), fun x h => by cases h⟩
  | _ :: _ :: _ :: _ :: _ :: t => exact ⟨fun _ => short (by simp), fun x h => by cases h⟩
def runR (r : List S30 × Int × Int) : List S30 × Option Nat → Prop
  | (o, none) => (Good o → r = (o, -1, 0)) ∧ (¬ Good o → ∃ c : Int, c ≠ 0 ∧ r = ([], -1, c))
  | (_, some i) => r = ([], (i : Int), 3)
theorem lns_next {s : List UInt8} (h : s ≠ []) : lns (ba s) = (ba (cut1 10 s).1, (cut1 10 s).2.2) :: lns (ba (cut1 10 s).2.1) := by
  have hs : ¬ (ba s).size = 0 := fun e => h (List.eq_nil_of_length_eq_zero e)
  rw [lns_cons hs]; rfl
theorem parse_loop (e : Bool) : ∀ (ls : List (List UInt8)) (s : List UInt8) (all : List (List UInt8)) (out : List S30), lin [] s = (ls, e) → s.length ≤ 70000 → all.drop out.length = ls → out.length + ls.length = all.length → all.length ≤ 1000000 →
    ∃ r, Ev (fun k => density_Parse.rows k (lns (ba s)) out) r ∧ Ev (fun k => spileref16_Parse.l0 k (all.map ba) e out (out.length : Int)) r ∧ runR r (run lineL e ls out) := by
  intro ls
  induction ls with
  | nil =>
    intro s all out h1 h2 h3 h4 h5
    obtain ⟨rfl, rfl⟩ := lin_nil h1
    obtain ⟨c, c1, c2, c3, _⟩ := check_both out (by omega)
    have e0 : lns (ba ([] : List UInt8)) = [] := lns_nil rfl
    rw [e0]
    refine ⟨if c.2 = 0 then (out, -1, 0) else ([], -1, c.2), ?_, Ev.step (fun k => spileref16_Parse.l0.eq_2 ..) (evn (by rw [List.length_map]; simp at h4; omega) (evb c2 ?_)), ?_⟩
    · show Ev (fun k => (density_Check.f k out).bind fun c => if c.2 = 0 then some (out, -1, 0) else some ([], -1, c.2)) _
      refine evb c1 ?_
      by_cases q : c.2 = 0
      · exact evp q (evr (by rw [if_pos q]))
      · exact evn q (evr (by rw [if_neg q]))
    · by_cases q : c.2 = 0
      · exact evp q (evr (by rw [if_pos q]))
      · exact evn q (evr (by rw [if_neg q]))
    · refine ⟨fun g => by rw [if_pos (c3.2 g)], fun g => ⟨c.2, fun q => g (c3.1 q), by rw [if_neg (fun q => g (c3.1 q))]⟩⟩
  | cons l r ih =>
    intro s all out h1 h2 h3 h4 h5
    obtain ⟨e1, e2, hne, hll⟩ := lin_next h1
    have hd := dline (cut1 10 s).1 (cut1 10 s).2.2 (by rw [e1]; omega)
    have hr := ref_round e all l r out h3 (by simpa using h4) (by omega) h5
    rw [lns_next hne]
    have hlt : out.length < 4294967296 := by simp at h4; omega
    have step : ∀ y, Ev (fun k => match (if (cut1 10 s).2.2 = true then lineL l else none) with
        | none => some (([] : List S30), (out.length : Int), (3 : Int))
        | some g => density_Parse.rows k (lns (ba (cut1 10 s).2.1)) (out ++ [g])) y → Ev (fun k => density_Parse.rows k ((ba (cut1 10 s).1, (cut1 10 s).2.2) :: lns (ba (cut1 10 s).2.1)) out) y := by
      intro y hy
      show Ev (fun k => if out.length < 4294967296 then (density_Parse.line (ba (cut1 10 s).1, (cut1 10 s).2.2)).bind fun y => match y with
        | none => some ([], (out.length : Int), 3)
        | some g => density_Parse.rows k (lns (ba (cut1 10 s).2.1)) (out ++ [g]) else none) y
      rw [hd, e1]
      simp only [Option.bind_some]
      exact evp hlt hy
    rw [run_cons]
    cases hx : lineL l with
    | none =>
      refine ⟨([], (out.length : Int), 3), step _ ?_, hr.1 (.inl hx), rfl⟩
      rw [hx, ite_self]
      exact Ev.now _
    | some x =>
      rw [hx] at step
      simp only []
      rcases e2 with ⟨c, hrest⟩ | ⟨c, _, rfl, rfl⟩
      · have hno : ¬ (r = [] ∧ e = false) := fun h => by
          have := (lin_nil (s := (cut1 10 s).2.1) (e := e) (by rw [hrest, h.1])).2
          rw [h.2] at this; cases this
        rw [if_neg hno]
        have hl2 := cut1_len 10 s c
        have h3' := (all_at h3).2.2
        obtain ⟨y, y1, y2, y3⟩ := ih (cut1 10 s).2.1 all (out ++ [x]) hrest (by omega) (by rw [List.length_append]; exact h3') (by rw [List.length_append]; simp at h4 ⊢; omega) h5
        rw [if_pos c] at step
        exact ⟨y, step y y1, hr.2 x hx hno y y2, y3⟩
      · rw [if_pos ⟨rfl, rfl⟩]
        rw [if_neg (by rw [c]; simp)] at step
        exact ⟨_, step _ (Ev.now _), hr.1 (.inr ⟨rfl, rfl⟩), rfl⟩
theorem parse_both (s : ByteArray) (hs : s.size ≤ 65536) : ∃ r, Ev (fun k => density_Parse.f k s) r ∧ Ev (fun k => spileref16_Parse.f k s) r ∧ runR r (run lineL (lin [] s.data.toList).2 (lin [] s.data.toList).1 []) := by
  have hl := lines_ev s (by omega)
  have hlen := lin_len s.data.toList []
  rw [size_data] at hlen
  obtain ⟨r, r1, r2, r3⟩ := parse_loop (lin [] s.data.toList).2 (lin [] s.data.toList).1 s.data.toList (lin [] s.data.toList).1 [] rfl (by rw [size_data]; omega) rfl (by simp) (by omega)
  rw [ba_data] at r1
  exact ⟨r, evn (by omega) r1, evn (by omega) (evb hl r2), r3⟩
def RowP (x : S30) : Prop := 0 ≤ x.f0 ∧ x.f0 ≤ 10000 ∧ 50000 ≤ x.f1 ∧ x.f1 ≤ 120000
theorem good_rows {l : List S30} (h : Good l) : ∀ x, x ∈ l → RowP x := fun x hx => by
  obtain ⟨i, h0, h1, rfl⟩ := rd_of_mem30 hx
  exact good_row h h0 h1
theorem lineT_len {x : S30} (h : RowP x) : (lineT x).length ≤ 30 := by
  obtain ⟨a, b, c, d⟩ := h
  have y0 := itoa_le (n := x.f0) (m := 6) (by omega) (by omega) (by omega)
  have y1 := itoa_le (n := x.f1) (m := 6) (by omega) (by omega) (by omega)
  simp only [lineT, wStr, wDen, List.length_append, List.length_cons, List.length_nil]
  omega
theorem part_eq {x : S30} (h : RowP x) : density_Print.part x = some (ba (lineT x ++ [10])) := by
  obtain ⟨a, b, c, d⟩ := h
  have y0 := itoa_le (n := x.f0) (m := 6) (by omega) (by omega) (by omega)
  have y1 := itoa_le (n := x.f1) (m := 6) (by omega) (by omega) (by omega)
  unfold density_Print.part
  rw [itoa_f (by omega) (by omega), itoa_f (by omega) (by omega)]
  show (if (ba (Lib.itoa x.f0)).size ≤ 100 ∧ (ba (Lib.itoa x.f1)).size ≤ 100 then some ((((ba [115, 116, 114, 101, 110, 103, 116, 104, 32] ++ ba (Lib.itoa x.f0)) ++ ba [32, 100, 101, 110, 115, 105, 116, 121, 32]) ++ ba (Lib.itoa x.f1)) ++ ba [10]) else none) = _
  rw [if_pos (by rw [ba_size, ba_size]; omega), ba_app, ba_app, ba_app, ba_app]
  simp [lineT, wStr, wDen]
theorem app_eq (acc s : List UInt8) (h : acc.length + s.length ≤ 140737488355328) : density_Print.app acc (ba s) = some (acc ++ s) := by
  unfold density_Print.app
  rw [ba_size, if_pos h]
  rfl
theorem print_loop (l : List S30) (hn : (l.length : Int) ≤ 128) (h : ∀ x, x ∈ l → RowP x) : ∀ i, 0 ≤ i → i ≤ (l.length : Int) → ∀ acc : List UInt8, (acc.length : Int) ≤ 31 * i →
    Ev (fun k => density_Print.l0 k l acc i) (ba (acc ++ printL lineT (l.drop i.toNat)), 0) := by
  refine count_up 0 (l.length : Int) _ ?_ ?_
  · intro acc ha
    rw [List.drop_eq_nil_of_le (by omega)]
    exact Ev.step (fun k => density_Print.l0.eq_2 ..) (evn (by omega) (evr (by simp [printL, ba])))
  · intro i h0 h1 ih acc ha
    have hx := h _ (rd_mem30 h0 h1)
    have hl := lineT_len hx
    have q := ih (acc ++ (lineT (rd_T30 l i) ++ [10])) (by simp only [List.length_append, List.length_cons, List.length_nil]; omega)
    rw [drop_rd h0 h1]
    refine Ev.step (fun k => density_Print.l0.eq_2 ..) (evp h1 (evp h0 ?_))
    rw [part_eq hx, w64_succ h0 h1 (by omega)]
    simp only [Option.bind_some]
    rw [app_eq _ _ (by simp only [List.length_append, List.length_cons, List.length_nil]; omega)]
    simp only [Option.bind_some]
    simp only [printL, List.append_assoc, List.cons_append, List.nil_append] at q ⊢
    exact q
theorem ref_print_loop (l : List S30) (hn : (l.length : Int) ≤ 128) (h : ∀ x, x ∈ l → RowP x) : ∀ i, 0 ≤ i → i ≤ (l.length : Int) → ∀ acc : List UInt8, (acc.length : Int) ≤ 31 * i →
    Ev (fun k => spileref16_Print.l0 k l (ba acc) i) (ba (acc ++ printL lineT (l.drop i.toNat)), 0) := by
  refine count_up 0 (l.length : Int) _ ?_ ?_
  · intro acc ha
    rw [List.drop_eq_nil_of_le (by omega)]
    exact Ev.step (fun k => spileref16_Print.l0.eq_2 ..) (evn (by omega) (evr (by simp [printL])))
  · intro i h0 h1 ih acc ha
    have hx := h _ (rd_mem30 h0 h1)
    have hl := lineT_len hx
    obtain ⟨a, b, c, d⟩ := hx
    have y0 := itoa_le (n := (rd_T30 l i).f0) (m := 6) (by omega) (by omega) (by omega)
    have y1 := itoa_le (n := (rd_T30 l i).f1) (m := 6) (by omega) (by omega) (by omega)
    have q := ih (acc ++ (lineT (rd_T30 l i) ++ [10])) (by simp only [List.length_append, List.length_cons, List.length_nil]; omega)
    rw [drop_rd h0 h1]
    refine Ev.step (fun k => spileref16_Print.l0.eq_2 ..) (evp h1 (evp (by rw [ba_size]; omega) (evp h0 (evb (dec_ev (by omega) (by omega)) ?_))))
    have e1 : ba acc ++ (⟨#[115, 116, 114, 101, 110, 103, 116, 104, 32]⟩ : ByteArray) = ba (acc ++ [115, 116, 114, 101, 110, 103, 116, 104, 32]) := ba_app _ _
    rw [e1, ba_app]
    have e2 : ba (acc ++ [115, 116, 114, 101, 110, 103, 116, 104, 32] ++ Lib.itoa (rd_T30 l i).f0) ++ (⟨#[32, 100, 101, 110, 115, 105, 116, 121, 32]⟩ : ByteArray) = ba (acc ++ [115, 116, 114, 101, 110, 103, 116, 104, 32] ++ Lib.itoa (rd_T30 l i).f0 ++ [32, 100, 101, 110, 115, 105, 116, 121, 32]) := ba_app _ _
    rw [e2]
    refine evp (by rw [ba_size, ba_size]; simp only [List.length_append, List.length_cons, List.length_nil]; omega) (evp (by rw [ba_size]; simp only [List.length_append, List.length_cons, List.length_nil]; omega) (evb (dec_ev (by omega) (by omega)) ?_))
    rw [ba_app]
    have e3 : ba (acc ++ [115, 116, 114, 101, 110, 103, 116, 104, 32] ++ Lib.itoa (rd_T30 l i).f0 ++ [32, 100, 101, 110, 115, 105, 116, 121, 32] ++ Lib.itoa (rd_T30 l i).f1) ++ (⟨#[10]⟩ : ByteArray) = ba (acc ++ [115, 116, 114, 101, 110, 103, 116, 104, 32] ++ Lib.itoa (rd_T30 l i).f0 ++ [32, 100, 101, 110, 115, 105, 116, 121, 32] ++ Lib.itoa (rd_T30 l i).f1 ++ [10]) := ba_app _ _
    rw [e3]
    refine evp (by rw [ba_size, ba_size]; simp only [List.length_append, List.length_cons, List.length_nil]; omega) (evp (by rw [ba_size]; simp only [List.length_append, List.length_cons, List.length_nil]; omega) ?_)
    rw [w64_succ h0 h1 (by omega)]
    simp only [printL, lineT, wStr, wDen, List.append_assoc, List.cons_append, List.nil_append] at q ⊢
    exact q
theorem print_both (l : List S30) (hl : (l.length : Int) ≤ 9223372036854775807) : ∃ r, Ev (fun k => density_Print.f k l) r ∧ Ev (fun k => spileref16_Print.f k l) r ∧ (Good l → r = (ba (printL lineT l), 0)) ∧ (¬ Good l → r = (ba [], 1)) := by
  have b1 := right_ev l hl
  have b2 := ref_right_ev l hl
  by_cases hg : Good l
  · have hf := good_rows hg
    have p1 := print_loop l hg.2.1 hf 0 (by omega) (by omega) [] (by simp)
    have p2 := ref_print_loop l hg.2.1 hf 0 (by omega) (by omega) [] (by simp)
    rw [show (0 : Int).toNat = 0 from rfl, List.drop_zero, List.nil_append] at p1 p2
    exact ⟨_, evb (b1.1 hg) (evp rfl p1), evb (b2.1 hg) (evp rfl p2), fun _ => rfl, fun h => absurd hg h⟩
  · exact ⟨(ba [], 1), evb (b1.2 hg) (evn (by simp) (Ev.now _)), evb (b2.2 hg) (evn (by simp) (Ev.now _)), fun h => absurd h hg, fun _ => rfl⟩
end Go.Proofs.YtoofoicocfnfoaaDoor.PL
namespace Go.Proofs.YtoofoicocfnfoaaDoor.Pure
open Go Go.RowKit Go.Proofs.YtoofoicocfnfoaaDoorW.PrintWords Go.Proofs.YtoofoicocfnfoaaDoorW.PrintLast Go.Proofs.YtoofoicocfnfoaaDoorW.PrintMore Go.Proofs.YtoofoicocfnfoaaDoor.Pr Go.Proofs.YtoofoicocfnfoaaDoor.Opn Go.Proofs.YtoofoicocfnfoaaDoor.X Go.Proofs.YtoofoicocfnfoaaDoor.PL Go.Proofs.YtoofoicocfnfoaaDoor.TX
theorem DensityTexts : densityTextsPure := by
  intro l s hl hs
  refine Ev.rounds ?_
  have hn := len_le hl.1
  obtain ⟨t, hf⟩ := few_ev l
  have haw : Ev (fun _ : Nat => spilelaw16_awake.f) true := Ev.now _
  refine evb haw (evp rfl (evb (evc (fun _ => rfl) hf) ?_))
  cases t with
  | false => exact evn (by simp) (Ev.step (fun k => spilelaw16_DensityTexts.j0.eq_2 ..) (evp rfl (Ev.now _)))
  | true =>
    refine evp rfl ?_
    by_cases c : (s.size : Int) > 1000
    · rw [decide_eq_true c]
      exact Ev.step (fun k => spilelaw16_DensityTexts.j0.eq_2 ..) (evp rfl (Ev.now _))
    · rw [decide_eq_false c]
      obtain ⟨p, p1, p2, _, _⟩ := print_both l hn
      obtain ⟨r, r1, r2, r3⟩ := parse_both s (by omega)
      have same : Ev (fun k => spileref16_Same.f k r.1 r.1) true := by
        refine same_self r.1 ?_
        cases hrun : run lineL (lin [] s.data.toList).2 (lin [] s.data.toList).1 [] with
        | mk o st =>
          rw [hrun] at r3
          cases st with
          | some i => rw [show r = ([], (i : Int), 3) from r3]; simp
          | none =>
            by_cases g : PL.Good o
            · rw [r3.1 g]; have := g.2.1; show (o.length : Int) ≤ _; omega
            · obtain ⟨c, _, e⟩ := r3.2 g; rw [e]; simp
      refine Ev.step (fun k => spilelaw16_DensityTexts.j0.eq_2 ..) (evn (by simp) (evb p1 (evb p2 (evb r1 (evb r2 ?_)))))
      exact evp rfl (evp rfl (evb same (evp rfl (evp rfl (evr (by simp))))))
end Go.Proofs.YtoofoicocfnfoaaDoor.Pure
namespace Go.Proofs.YtoofoicocfnfoaaDoor.X
open Go
variable {H : Type} {enc : TypeId × Value → H}
theorem wrap_shaped {a : Assume} {C : Checked} {os : Os} {f : FuncId} {fn : Func} {s : ChangeSpec} {conds : List PathCond} {apart fresh handsOn again : Bool} {X : World → Array Value → Prop}
    (hX : ∀ (w w' : World) (args : Array Value), w.heap = w'.heap → X w args → X w' args)
    (own : ownKnob C.prog.godebug = none) (started : os.Started) (noInit : C.prog.inits.idxOf? f = none) (hfn : C.prog.funcs[f]? = some fn)
    (witness : ∃ (w : World) (tape : Tape) (i : Input), w.os = os ∧ (w.forCall tape i).Shaped C.prog ∧ i.vars = [] ∧ Input.okWide C.prog (w.forCall tape i) .any w.heap.size f i ∧
      ((s.pre enc C.prog fn conds apart (w.forCall tape i).memory i.args ∧ X (w.forCall tape i).memory i.args) ∧ sizedMet enc C.prog fn (OpenSpec.ofChange s) apart (w.forCall tape i).memory i.args) ∧ a.holds C.prog (lone (Frame.enter C.prog f i.args .normal) [] (w.forCall tape i)))
    (walk : ∀ (W : World) (base : Nat) (args : Array Value) (ds gs : List (DataW H)) (before : List MemPlace),
      (∀ (j : Nat) t v, fn.params[j]? = some t → args[j]? = some v → Value.okWide C.prog W .any base t v) →
      DataW.Whole enc C.prog fn.params.toList s.vars apart W args.toList ds gs before → X W args → W.ShapedOpen C.prog →
      Calls C.prog f args W fun e W' => ∃ v, e = .returned v ∧ s.post enc C.prog fn apart fresh handsOn again W args v W') :
    ReturnsInHanded a C os f .any (fun w args => (s.pre enc C.prog fn conds apart w args ∧ X w args) ∧ sizedMet enc C.prog fn (OpenSpec.ofChange s) apart w args) (s.post enc C.prog fn apart fresh handsOn again) := by
  refine returnsInHanded_of_calls own started noInit witness ?_
  intro w tape i _ hsh _ hok hpre _
  obtain ⟨_, _, _, fn', hfn', _, _, _, _, hval⟩ := hok
  obtain rfl : fn' = fn := Option.some.inj (hfn'.symm.trans hfn)
  obtain ⟨⟨⟨ds, gs, before, hw, _⟩, hx⟩, _⟩ := hpre
  refine (walk (w.forCall tape i) w.heap.size i.args ds gs before hval (DataW.Whole.of_heap (w' := w.forCall tape i) (by rfl) hw) (hX _ _ _ (by rfl) hx) hsh).mono fun e W' ⟨v, he, hp⟩ => ?_
  subst he
  exact ChangeSpec.post_blind hp
end Go.Proofs.YtoofoicocfnfoaaDoor.X
namespace Go.Proofs.YtoofoicocfnfoaaDoor.densityTexts
open Go Go.ChangeShapes Go.WideShapes Go.ChangeAt Go.RowKit
open Go.ChangeMaps (open_string shut_string)
open Go.Proofs.YtoofoicocfnfoaaDoorW.PrintWords Go.Proofs.YtoofoicocfnfoaaDoor.O Go.Proofs.YtoofoicocfnfoaaDoor.Opn Go.Proofs.YtoofoicocfnfoaaDoor.Pr Go.Proofs.YtoofoicocfnfoaaDoor.X
theorem own : ownKnob Tryd.prog.godebug = none := by kernel_rfl
theorem laidOut : laidOutB Tryd.prog = true := by kernel_rfl
abbrev laidL : List (String × DataW Unit) := [("math/bits.deBruijn32tab", Rows.laid_math_bits_deBruijn32tab), ("math/bits.deBruijn64tab", Rows.laid_math_bits_deBruijn64tab), ("internal/strconv.uint64pow10", Rows.laid_internal_strconv_uint64pow10), ("unicode/utf8.acceptRanges", Rows.laid_unicode_utf8_acceptRanges), ("strconv.ErrRange", Rows.laid_strconv_ErrRange), ("strconv.ErrSyntax", Rows.laid_strconv_ErrSyntax), ("unicode/utf8.first", Rows.laid_unicode_utf8_first)]
set_option maxRecDepth 100000 in
theorem lifted (os : Os) (started : os.Started) (H : Type) (enc : TypeId × Value → H) :
    ReturnsInHanded {} Tryd.checked os 8 .any (fun w args => (Rows.densityTextsSpec.pre enc Tryd.prog Tryd.f8 [] false w args ∧ laidMetH Tryd.prog laidL w) ∧ sizedMet enc Tryd.prog Tryd.f8 (OpenSpec.ofChange Rows.densityTextsSpec) false w args)
      (Rows.densityTextsSpec.post enc Tryd.prog Tryd.f8 false true false false) := by
  refine wrap_shaped (C := Tryd.checked) (X := (fun w _ => laidMetH Tryd.prog laidL w)) (fun _ _ _ hh h => h.of_heap hh) own started (by kernel_rfl) Tryd.func8
    (ChangeSpec.witness_shaped (enc := enc) (C := Tryd.checked) (os := os) (X := (fun w _ => laidMetH Tryd.prog laidL w)) false (World.laidAll Tryd.prog os laidL) #[.slice none 0 0, .string ByteArray.empty] 8 (World.laidAll_os _ _ _) (World.shaped_of_ZipB (by kernel_rfl) (by kernel_rfl)) (by kernel_rfl) (by kernel_rfl) (by kernel_rfl) (by rw [MakeChecks.laidMetH_plain _ _ _ (by kernel_rfl)]; exact laidMet_laidAll _ (by kernel_rfl) (by kernel_rfl))) ?_
  intro W base args ds gs before hval0 hW hL hsh
  have hval : ∀ (j : Nat) t v, Tryd.f8.params[j]? = some t → args[j]? = some v → Value.okWide Tryd.prog W .any base t v := hval0
  have hW' := hW
  obtain ⟨p, q, hA0, hV, rfl, hfz, hnd⟩ := hW
  have hA : DataW.TrodAll enc Tryd.prog W 0 (fun _ => true) true Tryd.f8.params.toList args.toList ds p := hA0
  rw [Tryd.params8] at hA hval
  obtain ⟨v0, vs0, d0, ds0, p0, q0, hargs, rfl, rfl, h0, r0⟩ := trodAll_cons hA
  obtain ⟨v1, vs1, d1, ds1, p1, q1, rfl, rfl, rfl, h1, r1⟩ := trodAll_cons r0
  obtain ⟨rfl, rfl, rfl⟩ := trodAll_nil r1
  obtain rfl : args = #[v0, v1] := by cases args; simp_all
  obtain ⟨rfl, rfl⟩ := trodVars_none hV
  obtain ⟨a0_, len0_, cap0_, rfl⟩ := okWide_slice Tryd.underlying22 (hval 0 22 v0 rfl rfl)
  have k0 := h0
  have lt0 : ∀ x ∈ p0, x.block < W.heap.size := by obtain ⟨m, hm⟩ := k0; exact DataW.trod_lt m _ _ _ hm
  obtain ⟨l0, K0, ok0⟩ : ∃ x, (Kd.slice 30 k30).K W x [.slice a0_ len0_ cap0_] ∧ (x.length ≤ maxLen ∧ ∀ x0_, x0_ ∈ x → ok30 x0_) := by
    obtain ⟨fuel, hf⟩ := h0
    exact opens22.2 _ _ _ _ _ _ _ _ _ hf
  obtain ⟨A0, c0, e0, g0, hr0⟩ := K0
  simp only [List.cons.injEq, Value.slice.injEq, and_true] at e0
  obtain ⟨rfl, rfl, rfl⟩ := e0
  obtain ⟨a1, rfl, rfl, rfl, y1⟩ := open_string Tryd.underlying9 (hval 1 9 v1 rfl rfl) h1
  clear hA0 hval0
  obtain ⟨k, hp⟩ := Pure.DensityTexts l0 a1 ok0 y1
  have hG : GI W := GI.of_laid laidL (by simp [laidL]) (by simp [laidL]) (by simp [laidL]) hL hsh
  refine (spilelaw16_DensityTexts.calls k _ _ l0 a1 true W hr0 g0 hG rfl hp).mono fun e W' ⟨he, bel⟩ => ?_
  subst he
  exact ⟨_, rfl, _, _, _, [], _, [], hW', trodAll_mk1 (shut_bool Tryd.underlying4 _), (trodAll_cons_mk (Below.trod laidOut (by kernel_rfl) (of_decide_eq_true (by kernel_rfl)) k0 bel lt0) (trodAll_cons_mk (shut_string Tryd.underlying9 y1) trodAll_mk0)), rfl, bel.frame _, fun h => by cases h⟩
theorem holds : Rows.DensityTextsSaid :=
  OpenClaim.holds_of_wide 8 Tryd.f8 rfl rfl rfl rfl rfl rfl rfl ⟨rfl, rfl, rfl, rfl, rfl⟩ rfl rfl rfl rfl rfl (by kernel_rfl) Tryd.func8 (by kernel_rfl)
    (of_decide_eq_true (by kernel_rfl)) (by unfold Func.isWrapper; first | (rw [if_pos (by decide +kernel)]; kernel_rfl) | (rw [if_neg (by decide +kernel)]; exact ⟨rfl, rfl⟩))
    (fun os started H enc _ => lifted os started H enc)
theorem card : Rows.DensityTextsCardSaid :=
  Claim7.holds_tied_plain_at .later [] [.data, .data, .data, .data, .sentinel, .sentinel, .pinned] true (true, "d9fa5d4542b48e79648329d3495f6539d36b662583432034243887fb958e9878") true
    holds (fun _ h => by cases h) (by kernel_rfl) (fun _ h => by cases h) densityTexts_row_tie rfl ⟨rfl, rfl⟩ (by kernel_rfl) rfl
    (fun f fn hf hfn => by
      obtain rfl : f = 8 := Option.some.inj ((show Tryd.prog.funcNamed "spile/spilelaw16.DensityTexts" = some 8 by kernel_rfl).symm.trans hf) |>.symm
      obtain rfl : fn = Tryd.f8 := (Option.some.inj (Tryd.func8.symm.trans hfn)).symm
      exact ⟨by kernel_rfl, fun j t ht => by
        rw [Tryd.params8] at ht
        have hm : t ∈ [22, 9] := by simpa using Array.mem_of_getElem? ht
        have hall : ([22, 9].all fun u => !Tryd.prog.wantsStandIn u) = true := by kernel_rfl
        exact (show Tryd.prog.wantsStandIn t = false by simpa using List.all_eq_true.1 hall t hm)⟩)
    (by kernel_rfl)
end Go.Proofs.YtoofoicocfnfoaaDoor.densityTexts
namespace Go.Proofs.YtoofoicocfnfoaaDoor
/-- The card, under a short name, for the claim. -/
theorem densityTexts_holds : Rows.DensityTextsCardSaid := densityTexts.card
#print axioms densityTexts_holds
end Go.Proofs.YtoofoicocfnfoaaDoor
