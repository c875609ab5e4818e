/-
The law DensityBack returns true for every input that can be read as data, and leaves its arguments as they were: the row, and the card that ties the listed variables to the program's text.
No condition of its own beyond those that the given row prints.
-/
import Derived.HandedShaped
import Derived.Handed
import Derived.Test.YtoofoicocfnfoaaDoorCards
import Derived.Test.YtoofoicocfnfoaaDoorTie
import Derived.ProofKit
import Derived.OpenShut
import Derived.ShutString
import Derived.ChangeOld
import Derived.SizedLaws
import Derived.LaidMore
import Derived.Lay
import Derived.MakeChecks
import Derived.SevenTiedAt
import Derived.LaidSub
import Derived.LaidOnce
import Derived.Stop.Joined
import Derived.Stop.LaidErr
import Derived.Test.YtoofoicocfnfoaaDoorDensityBackB
set_option linter.unusedVariables false
set_option linter.unusedSimpArgs false
namespace Go.Proofs.YtoofoicocfnfoaaDoor.Pr
open Go.RowKit Go.Proofs.YtoofoicocfnfoaaDoorW.PrintWords Go.Proofs.YtoofoicocfnfoaaDoorW.PrintLast Go.Proofs.YtoofoicocfnfoaaDoorW.PrintMore Go.Proofs.YtoofoicocfnfoaaDoor.X
attribute [local go_sem] max2_int min2_int max_two min_two max_three min_three max_four min_four   -- for this text's walks alone
set_option linter.unusedVariables false
set_option linter.unusedSimpArgs false
def density_Parse.line (x : ByteArray × Bool) : Option (Option S30) := (strings_Split.f x.1 ⟨#[32]⟩).bind fun ws =>
 if x.2 = true ∧ ws.length = 4 ∧ (ws.getD 0 ⟨#[]⟩).toList = [115, 116, 114, 101, 110, 103, 116, 104] ∧ (ws.getD 2 ⟨#[]⟩).toList = [100, 101, 110, 115, 105, 116, 121] then
  (density_number.f (ws.getD 1 ⟨#[]⟩)).bind fun s => (density_number.f (ws.getD 3 ⟨#[]⟩)).bind fun d => if s.2 = true ∧ d.2 = true then some (some ⟨s.1, d.1⟩) else some none
 else some none
def density_Parse.rows (k : Nat) : List (ByteArray × Bool) → List S30 → Option (List S30 × Int × Int)
 | [], acc => (density_Check.f k acc).bind fun c => if c.2 = 0 then some (acc, -1, 0) else some ([], -1, c.2)
 | x :: r, acc => if acc.length < 4294967296 then (density_Parse.line x).bind fun y => match y with
  | none => some ([], (acc.length : Int), 3)
  | some g => density_Parse.rows k r (acc ++ [g]) else none
def density_Parse.f (k : Nat) (a0 : ByteArray) : Option (List S30 × Int × Int) := if (a0.size : Int) > 65536 then some ([], -1, 8) else density_Parse.rows k (lns a0) []
def flat30 (l : List S30) : List Value := l.flatMap fun x => [Value.int .i64 x.f0, Value.int .i64 x.f1]
theorem flat30_len (l : List S30) : (flat30 l).length = l.length * 2 := by
 induction l with
 | nil => rfl
 | cons x r ih => show (_ :: _ :: flat30 r).length = _; simp only [List.length_cons, ih]; omega
theorem flat30_get (ys : List S30) : ∀ (j : Nat) (p : S30), ys[j]? = some p → ((flat30 ys).drop (j * 2)).take 2 = [.int .i64 p.f0, .int .i64 p.f1] := by
 induction ys with
 | nil => intro j p hp; simp at hp
 | cons y r ih =>
  intro j p hp
  cases j with
  | zero => obtain rfl := Option.some.inj hp; rfl
  | succ j =>
   have := ih j p (by simpa using hp)
   rw [show (j + 1) * 2 = j * 2 + 1 + 1 from by omega]
   exact this
theorem own_R30 {w : World} {base : Nat} {v : Value} {xs : List S30} (h : w.ownsRow base 30 2 v xs.length (flat30 xs)) : Kd.R k30 30 w base (fun _ => True) v xs :=
 ⟨fun _ _ => trivial, flat30 xs, h, flat30_len xs, fun j p hp => by
  have e := flat30_get xs j p hp
  show k30.M _ _ _ p (((flat30 xs).drop (j * 2)).take 2)
  rw [e]
  exact k30_mkM _ _ _ p⟩
section
attribute [local go_sem] Oper.semAt_some
/-- What stands between two rounds. -/
def density_Parse.I (k : Nat) (a0 : ByteArray) (r : List S30 × Int × Int) (w : World) (pre : List (ByteArray × Bool)) (W : World) : Prop :=
 ∃ (acc : List S30) (v : Value) (rest : List (ByteArray × Bool)), lns a0 = pre ++ rest ∧ density_Parse.rows k rest acc = some r ∧ Boxed W (w.heap.size + 3) 22 v ∧ W.ownsRow (w.heap.size + 5) 30 2 v acc.length (flat30 acc) ∧
  (Boxed W w.heap.size 22 (.slice none 0 0) ∧ Boxed W (w.heap.size + 1) 3 (.int .i64 0) ∧ Boxed W (w.heap.size + 2) 25 (.int .i64 0)) ∧ Below w.heap.size w W ∧ w.heap.size + 5 ≤ W.heap.size
def density_Parse.Ix (r : List S30 × Int × Int) (w : World) (pre : List (ByteArray × Bool)) (W : World) : Prop :=
 r.1 = [] ∧ (Boxed W w.heap.size 22 (.slice none 0 0) ∧ Boxed W (w.heap.size + 1) 3 (.int .i64 r.2.1) ∧ Boxed W (w.heap.size + 2) 25 (.int .i64 r.2.2)) ∧ Below w.heap.size w W
theorem box_turn {W W' : World} {row : Option Nat} {bt B k : Nat} {t : TypeId} {v : Value} (h : Boxed W k t v) (hg : W.grownBy W' row) (hr : ∀ r, row = some r → r = bt ∨ (B ≤ r ∧ ∃ o : Obj, W.heap[r]? = some o ∧ o.isCells = false)) (h1 : k ≠ bt) (h2 : k < B) : Boxed W' k t v :=
 h.kept hg (fun e => by rcases hr k e.symm with h3 | h3 <;> omega)
theorem own_turn {W W' : World} {row : Option Nat} {bt B : Nat} {v : Value} {n : Nat} {xs : List Value} (h : W.ownsRow B 30 2 v n xs) (hg : W.grownBy W' row) (hr : ∀ r, row = some r → r = bt ∨ (B ≤ r ∧ ∃ o : Obj, W.heap[r]? = some o ∧ o.isCells = false)) (h1 : bt < B) : W'.ownsRow B 30 2 v n xs := by
 refine own_other h hg ?_
 rcases h.2 with ⟨rfl, _⟩ | ⟨g, cap, cur, rfl, hb, hh, _⟩
 ·
  exact .inl rfl
 ·
  refine .inr fun e => ?_
  rcases hr g e.symm with h3 | ⟨_, o, ho, hc⟩
  ·
   omega
  ·
   rw [hh] at ho; cases ho; cases hc
theorem one_of_take {l : List Value} {j : Nat} {v : Value} (h : (l.drop (j * 1)).take 1 = [v]) : l[j]? = some v := by
 have := congrArg (·[0]?) h
 rw [List.getElem?_take, List.getElem?_drop] at this
 simpa using this
theorem split_row {w1 : World} {base : Nat} {vw : Value} {ws : List ByteArray} (hR : Kd.R Kd.string 9 w1 base (fun _ => True) vw ws) : ∃ A c, vw = .slice A ws.length c ∧ ws.length ≤ c ∧ (0 < ws.length → ∃ g, A = some ⟨g, 0, none⟩ ∧ ∀ j s, ws[j]? = some s → w1.cell? ⟨g, j, none⟩ = some (.string s)) := by
 obtain ⟨_, inner, ho, hr⟩ := hR
 rcases ho.2 with ⟨rfl, h0⟩ | ⟨g, cap, cur, rfl, hb, hh, hn, hm, hs, ht⟩
 ·
  exact ⟨none, 0, by rw [h0], by omega, fun h => absurd h (by omega)⟩
 ·
  refine ⟨_, cap, rfl, hn, fun _ => ⟨g, rfl, fun j s hj => ?_⟩⟩
  have e : (inner.drop (j * 1)).take 1 = [.string s] := hr.2 j s hj
  have e2 := one_of_take e
  rw [← ht, List.getElem?_take] at e2
  split at e2
  ·
   rw [cell_of_row w1 g j cur 9 (0, 0) hh, ← Array.getElem?_toList]; exact e2
  ·
   cases e2
theorem split_row4 {w1 : World} {base : Nat} {vw : Value} {ws : List ByteArray} (hR : Kd.R Kd.string 9 w1 base (fun _ => True) vw ws) (h4 : ws.length = 4) : ∃ g c, vw = .slice (some ⟨g, 0, none⟩) 4 c ∧ 4 ≤ c ∧
  w1.cell? ⟨g, 0, none⟩ = some (.string (ws.getD 0 ⟨#[]⟩)) ∧ w1.cell? ⟨g, 1, none⟩ = some (.string (ws.getD 1 ⟨#[]⟩)) ∧ w1.cell? ⟨g, 2, none⟩ = some (.string (ws.getD 2 ⟨#[]⟩)) ∧ w1.cell? ⟨g, 3, none⟩ = some (.string (ws.getD 3 ⟨#[]⟩)) := by
 obtain ⟨A, c, rfl, hc, h⟩ := split_row hR
 replace h := h (by omega)
 obtain ⟨g, rfl, h⟩ := h
 match ws, h4 with
 | [a, b, d, e], _ => exact ⟨g, c, rfl, hc, h 0 a rfl, h 1 b rfl, h 2 d rfl, h 3 e rfl⟩
theorem box_facts {W w1 : World} {b : Nat} {t : TypeId} {v : Value} (h : Boxed W b t v) (hb : Below W.heap.size W w1) : w1.cell? ⟨b, 0, none⟩ = some v ∧ w1.frozen? ⟨b, 0, none⟩ = false :=
 have k : Boxed w1 b t v := (hb.block b h.lt).trans h
 ⟨k.cell, k.frozen⟩
theorem density_Parse.failed {w W w1 : World} {B : Nat} (n : Nat) (xs : List (ByteArray × Bool)) (hB : Below w.heap.size w W) (hb1 : Below W.heap.size W w1) (hBw : w.heap.size + 5 ≤ B)
  (y0 : Boxed W w.heap.size 22 (.slice none 0 0)) (y1 : Boxed W (w.heap.size + 1) 3 (.int .i64 0)) (y2 : Boxed W (w.heap.size + 2) 25 (.int .i64 0)) :
  KeepsFrom B W ((((w1.setCell ⟨w.heap.size, 0, none⟩ (.slice none 0 0)).setCell ⟨w.heap.size + 1, 0, none⟩ (.int .i64 n)).setCell ⟨w.heap.size + 1 + 1, 0, none⟩ (.int .i64 3)).drew) ∧
  density_Parse.Ix ([], (n : Int), 3) w xs ((((w1.setCell ⟨w.heap.size, 0, none⟩ (.slice none 0 0)).setCell ⟨w.heap.size + 1, 0, none⟩ (.int .i64 n)).setCell ⟨w.heap.size + 1 + 1, 0, none⟩ (.int .i64 3)).drew) := by
 have b0 : Boxed w1 w.heap.size 22 (.slice none 0 0) := (hb1.block _ y0.lt).trans y0
 have b1 : Boxed w1 (w.heap.size + 1) 3 (.int .i64 0) := (hb1.block _ y1.lt).trans y1
 have b2 : Boxed w1 (w.heap.size + 2) 25 (.int .i64 0) := (hb1.block _ y2.lt).trans y2
 refine ⟨⟨?_, fun k o hk ho hc => ?_⟩, rfl, ⟨?_, ?_, ?_⟩, ?_⟩
 ·
  have := hb1.size
  simpa using this
 ·
  have h1 := (hb1.block k (Array.getElem?_eq_some_iff.1 ho).1).trans ho
  refine (Below.heap_setCell _ _ _ k (by show k ≠ w.heap.size + 1 + 1; omega)).trans ((Below.heap_setCell _ _ _ k (by show k ≠ w.heap.size + 1; omega)).trans ((Below.heap_setCell _ _ _ k (by show k ≠ w.heap.size; omega)).trans h1))
 ·
  exact ((b0.set (.slice none 0 0)).other (by omega) _).other (by omega) _
 ·
  exact ((b1.other (by omega) _).set (.int .i64 n)).other (by omega) _
 ·
  exact ((b2.other (by omega) _).other (by omega) _).set (.int .i64 3)
 ·
  exact ((((below_step hB hb1).setCell (p := ⟨w.heap.size, 0, none⟩) (Nat.le_refl _) _).setCell (p := ⟨w.heap.size + 1, 0, none⟩) (by show w.heap.size ≤ w.heap.size + 1; omega) _).setCell (p := ⟨w.heap.size + 1 + 1, 0, none⟩) (by show w.heap.size ≤ w.heap.size + 1 + 1; omega) _).drew
theorem flat30_snoc (acc : List S30) (g : S30) : flat30 (acc ++ [g]) = flat30 acc ++ [.int .i64 g.f0, .int .i64 g.f1] := by simp [flat30]
theorem box_grown {W w3 w4 : World} {tmp : Obj} {base b : Nat} {t : TypeId} {u v : Value} {n : Nat} {xs : List Value} (h : Boxed W b t u) (h3 : Below W.heap.size W w3) (ht : t ≠ 30) (ho : w3.ownsRow base 30 2 v n xs) (hg : (w3.alloc tmp).grownBy w4 v.ownBlock) : Boxed w4 b t u :=
 have k : Boxed w3 b t u := (h3.block b h.lt).trans h
 (k.alloc tmp).kept hg (k.not_row ht ho)
theorem density_Parse.went {k : Nat} {a0 : ByteArray} {r : List S30 × Int × Int} {w W w3 w4 : World} {B : Nat} {acc : List S30} {v v' : Value} {g : S30} {pre more : List (ByteArray × Bool)} {x : ByteArray × Bool} {tmp : Obj}
  (hBw : B = w.heap.size + 5) (hl : lns a0 = (pre ++ [x]) ++ more) (hq : density_Parse.rows k more (acc ++ [g]) = some r) (hB : Below w.heap.size w W) (h3 : Below W.heap.size W w3)
  (hv : Boxed W (w.heap.size + 3) 22 v) (ho : W.ownsRow (w.heap.size + 5) 30 2 v acc.length (flat30 acc)) (hbt : w.heap.size + 4 < W.heap.size)
  (y0 : Boxed W w.heap.size 22 (.slice none 0 0)) (y1 : Boxed W (w.heap.size + 1) 3 (.int .i64 0)) (y2 : Boxed W (w.heap.size + 2) 25 (.int .i64 0))
  (hown' : w4.ownsRow (w.heap.size + 5) 30 2 v' (acc.length + 1) (flat30 acc ++ [.int .i64 g.f0, .int .i64 g.f1])) (hgrow : (w3.alloc tmp).grownBy w4 v.ownBlock) :
  KeepsFrom B W (w4.setCell ⟨w.heap.size + 3, 0, none⟩ v') ∧ (w4.setCell ⟨w.heap.size + 3, 0, none⟩ v').heap[w.heap.size + 4]? = W.heap[w.heap.size + 4]? ∧ density_Parse.I k a0 r w (pre ++ [x]) (w4.setCell ⟨w.heap.size + 3, 0, none⟩ v') := by
 have ho3 : w3.ownsRow (w.heap.size + 5) 30 2 v acc.length (flat30 acc) := pw_own_below ho h3
 have hv3 : Boxed w3 (w.heap.size + 3) 22 v := (h3.block _ hv.lt).trans hv
 have hw3 : Below w.heap.size w w3 := below_step hB h3
 obtain ⟨hv4, hv5, _, hk, hb⟩ := hv3.appended (n₀ := w.heap.size) (by decide) (own_weaken ho3 (by omega)) hw3.size (by omega) (own_weaken hown' (by omega)) hgrow
 have hr5 : (w4.setCell ⟨w.heap.size + 3, 0, none⟩ v').ownsRow (w.heap.size + 5) 30 2 v' (acc.length + 1) (flat30 acc ++ [.int .i64 g.f0, .int .i64 g.f1]) := hown'.kept (grownBy_setCell' w4 _ v') (.inr (hv4.not_row (by decide) hown').symm)
 refine ⟨KeepsFrom.trans ⟨h3.size, fun i o _ hi _ => (h3.block i (Array.getElem?_eq_some_iff.1 hi).1).trans hi⟩ (hk.from B), ?_, acc ++ [g], v', more, hl, hq, hv5, ?_, ⟨?_, ?_, ?_⟩, hw3.trans hb, ?_⟩
 ·
  refine (Below.heap_setCell _ _ _ _ (by show w.heap.size + 4 ≠ w.heap.size + 3; omega)).trans ?_
  have h4 : w.heap.size + 4 < w3.heap.size := Nat.lt_of_lt_of_le hbt h3.size
  refine (hgrow.block _ (by rw [World.size_alloc]; omega) (fun e => ?_)).trans ((Below.heap_alloc w3 tmp _ h4).trans (h3.block _ hbt))
  have := own_base ho3 _ e.symm
  omega
 ·
  rw [flat30_snoc, List.length_append]; exact hr5
 ·
  exact (box_grown y0 h3 (by decide) ho3 hgrow).other (by omega) _
 ·
  exact (box_grown y1 h3 (by decide) ho3 hgrow).other (by omega) _
 ·
  exact (box_grown y2 h3 (by decide) ho3 hgrow).other (by omega) _
 ·
  have e1 := h3.size
  have e2 := hk.size
  omega
theorem two_cells (w : World) (a b : Value) (t : TypeId) : ∀ (j : Nat) (u : Value), [a, b][j]? = some u → (w.alloc (.cells #[a, b] t)).cell? ((⟨w.heap.size, 0, none⟩ : Addr).add j) = some u := by
 intro j u hj
 rw [Addr.add_lit, Nat.zero_add, World.cell?_alloc_at (w := w) _ _ w.heap.size j rfl]
 simpa using hj
theorem results_boxes {W : World} {tmps : Array Value} {g1 g2 g3 : Nat} {v1 v2 v3 : Value} (h1 : tmps.getD 2 undef = .pointer (some ⟨g1, 0, none⟩)) (h2 : tmps.getD 3 undef = .pointer (some ⟨g2, 0, none⟩)) (h3 : tmps.getD 4 undef = .pointer (some ⟨g3, 0, none⟩))
  (b1 : Boxed W g1 22 v1) (b2 : Boxed W g2 3 v2) (b3 : Boxed W g3 25 v3) : (results Tryd.f29 tmps).run Tryd.prog W = .ok (.tuple #[v1, v2, v3]) W := by
 have a22 : ∀ W : World, (isAgg 22).run Tryd.prog W = .ok false W := fun W => by kernel_rfl
 have a3 : ∀ W : World, (isAgg 3).run Tryd.prog W = .ok false W := fun W => by kernel_rfl
 have a25 : ∀ W : World, (isAgg 25).run Tryd.prog W = .ok false W := fun W => by kernel_rfl
 have c1 := b1.cell
 have c2 := b2.cell
 have c3 := b3.cell
 have h1' : tmps[2]?.getD undef = .pointer (some ⟨g1, 0, none⟩) := by simpa using h1
 have h2' : tmps[3]?.getD undef = .pointer (some ⟨g2, 0, none⟩) := by simpa using h2
 have h3' : tmps[4]?.getD undef = .pointer (some ⟨g3, 0, none⟩) := by simpa using h3
 unfold results
 rw [show Tryd.f29.results = [ResultVar.cell 2 22, ResultVar.cell 3 3, ResultVar.cell 4 25].toArray from rfl, List.mapM_toArray]
 simp only [Sem.run_bind, Sem.run_map]
 simp [List.mapM_cons, h1', h2', h3', asAddr, loadVar, a22, a3, a25, c1, c2, c3]
theorem density_Parse.leave {n : Nat} {w W : World} {D : Nat} {v1 : Value} {r2 r3 : Int} {tmps : Array Value} {xs : List S30} (hK : W.heap[D]? = some (.deferred (some []))) (hD : w.heap.size + 5 ≤ D)
  (y0 : Boxed W w.heap.size 22 v1) (y1 : Boxed W (w.heap.size + 1) 3 (.int .i64 r2)) (y2 : Boxed W (w.heap.size + 2) 25 (.int .i64 r3)) (hB : Below w.heap.size w W) (hrow : W.ownsRow (w.heap.size + 5) 30 2 v1 xs.length (flat30 xs))
  (t2 : tmps.getD 2 undef = .pointer (some ⟨w.heap.size, 0, none⟩)) (t3 : tmps.getD 3 undef = .pointer (some ⟨w.heap.size + 1, 0, none⟩)) (t4 : tmps.getD 4 undef = .pointer (some ⟨w.heap.size + 1 + 1, 0, none⟩)) :
  LeavesInM Fence.wide n Tryd.prog Tryd.f29 tmps (fun e w' => ∃ v0_, e = .returned (.tuple #[v0_, .int .i64 r2, .int .i64 r3]) ∧ Kd.R k30 30 w' w.heap.size (fun _ => True) v0_ xs ∧ Below w.heap.size w w') [{ target := .collected D, args := #[] }] .returning W := by
 have hg := grownBy_putObj' W D (.deferred none)
 have ne : ∀ b, b < w.heap.size + 5 → some b ≠ some D := fun b hb e => by have := Option.some.inj e; omega
 refine ⟨by simp, .inl ⟨_, _, rfl, run_takeDeferred hK, ⟨_, results_boxes t2 t3 t4 (y0.kept hg (ne _ (by omega))) (y1.kept hg (ne _ (by omega))) (y2.kept hg (ne _ (by omega))), v1, rfl, own_R30 (own_weaken (ownsRow_putObj hrow _ hK rfl) (by omega)), ?_⟩⟩⟩
 exact hB.grown hg hB.size (fun k e => by cases e; omega)
theorem density_Parse.stored {w W W1 : World} {D : Nat} {u1 u2 u3 : Value} (v1 v2 v3 : Value) {n : Nat} {xs : List Value} (hK : W.heap[D]? = some (.deferred (some []))) (h1 : Below W.heap.size W W1) (hD : w.heap.size + 5 ≤ D)
  (y0 : Boxed W w.heap.size 22 u1) (y1 : Boxed W (w.heap.size + 1) 3 u2) (y2 : Boxed W (w.heap.size + 2) 25 u3) (hB : Below w.heap.size w W) (hrow : W.ownsRow (w.heap.size + 5) 30 2 v1 n xs) :
  (((W1.setCell ⟨w.heap.size, 0, none⟩ v1).setCell ⟨w.heap.size + 1, 0, none⟩ v2).setCell ⟨w.heap.size + 1 + 1, 0, none⟩ v3).heap[D]? = some (.deferred (some [])) ∧
  Boxed (((W1.setCell ⟨w.heap.size, 0, none⟩ v1).setCell ⟨w.heap.size + 1, 0, none⟩ v2).setCell ⟨w.heap.size + 1 + 1, 0, none⟩ v3) w.heap.size 22 v1 ∧
  Boxed (((W1.setCell ⟨w.heap.size, 0, none⟩ v1).setCell ⟨w.heap.size + 1, 0, none⟩ v2).setCell ⟨w.heap.size + 1 + 1, 0, none⟩ v3) (w.heap.size + 1) 3 v2 ∧
  Boxed (((W1.setCell ⟨w.heap.size, 0, none⟩ v1).setCell ⟨w.heap.size + 1, 0, none⟩ v2).setCell ⟨w.heap.size + 1 + 1, 0, none⟩ v3) (w.heap.size + 2) 25 v3 ∧
  Below w.heap.size w (((W1.setCell ⟨w.heap.size, 0, none⟩ v1).setCell ⟨w.heap.size + 1, 0, none⟩ v2).setCell ⟨w.heap.size + 1 + 1, 0, none⟩ v3) ∧
  (((W1.setCell ⟨w.heap.size, 0, none⟩ v1).setCell ⟨w.heap.size + 1, 0, none⟩ v2).setCell ⟨w.heap.size + 1 + 1, 0, none⟩ v3).ownsRow (w.heap.size + 5) 30 2 v1 n xs := by
 have b0 : Boxed W1 w.heap.size 22 u1 := (h1.block _ y0.lt).trans y0
 have b1 : Boxed W1 (w.heap.size + 1) 3 u2 := (h1.block _ y1.lt).trans y1
 have b2 : Boxed W1 (w.heap.size + 2) 25 u3 := (h1.block _ y2.lt).trans y2
 have ho1 := pw_own_below hrow h1
 have no : ∀ b, b < w.heap.size + 5 → some b ≠ v1.ownBlock := fun b hb e => by have := own_base ho1 b e.symm; omega
 refine ⟨?_, ?_, ?_, ?_, ?_, ?_⟩
 ·
  have hd := (h1.block _ (Array.getElem?_eq_some_iff.1 hK).1).trans hK
  exact (Below.heap_setCell _ _ _ _ (by show D ≠ w.heap.size + 1 + 1; omega)).trans ((Below.heap_setCell _ _ _ _ (by show D ≠ w.heap.size + 1; omega)).trans ((Below.heap_setCell _ _ _ _ (by show D ≠ w.heap.size; omega)).trans hd))
 ·
  exact ((b0.set v1).other (by omega) _).other (by omega) _
 ·
  exact ((b1.other (by omega) _).set v2).other (by omega) _
 ·
  exact ((b2.other (by omega) _).other (by omega) _).set v3
 ·
  exact (((below_step hB h1).setCell (p := ⟨w.heap.size, 0, none⟩) (Nat.le_refl _) _).setCell (p := ⟨w.heap.size + 1, 0, none⟩) (by show w.heap.size ≤ w.heap.size + 1; omega) _).setCell (p := ⟨w.heap.size + 1 + 1, 0, none⟩) (by show w.heap.size ≤ w.heap.size + 1 + 1; omega) _
 ·
  exact own_setCell (own_setCell (own_setCell ho1 (no _ (by show w.heap.size < _; omega)) _) (no _ (by show w.heap.size + 1 < _; omega)) _) (no _ (by show w.heap.size + 1 + 1 < _; omega)) _
set_option maxHeartbeats 8000000 in
set_option maxRecDepth 100000 in
theorem density_Parse.calls (k : Nat) (a0 : ByteArray) (r1 : List (S30)) (r2 : Int) (r3 : Int) (w : World) (hG : GI w) (h : density_Parse.f k a0 = some (r1, r2, r3)) :
  Calls Tryd.prog 29 #[.string a0] w fun e w' => ∃ v0_ : Value, e = .returned (.tuple #[v0_, .int .i64 r2, .int .i64 r3]) ∧ Kd.R k30 30 w' w.heap.size (fun _ => True) v0_ r1 ∧ Below w.heap.size w w' := by
 have hu22 := Tryd.underlying22
 unfold density_Parse.f at h
 refine (callsIn_wide (n := 5)).1 ?_
 refine callsIn_of_wp_marks Tryd.func29 rfl trivial ?_ rfl
 simp only [Tryd.ntmps29, List.size_toArray, List.length_cons, List.length_nil, Nat.reduceAdd, Nat.reduceSub, Array.replicate_succ, Array.replicate_zero, List.push_toArray, List.append_toArray, List.nil_append, List.cons_append]
 by_cases hbig : (a0.size : Int) > 65536
 ·
  rw [if_pos hbig] at h
  cases h
  gi_wp2
  refine ⟨_, results_boxes (g1 := w.heap.size) (g2 := w.heap.size + 1) (g3 := w.heap.size + 1 + 1) rfl rfl rfl (((Boxed.new w 22 _).alloc _).alloc _) ?_ ?_, ⟨_, rfl, Kd.R_nil _ _ _ _ _, ?_⟩⟩
  ·
   have := (Boxed.new (w.alloc (.cells #[.slice none 0 0] 22)) 3 (.int .i64 (-1))).alloc (.cells #[.int .i64 8] 25)
   rwa [World.size_alloc] at this
  ·
   have := Boxed.new ((w.alloc (.cells #[.slice none 0 0] 22)).alloc (.cells #[.int .i64 (-1)] 3)) 25 (.int .i64 8)
   rwa [World.size_alloc, World.size_alloc] at this
  ·
   exact below_alloc (below_alloc (below_alloc (Below.refl _ _) _) _) _
 ·
  rw [if_neg hbig] at h
  obtain ⟨W0, hW0⟩ : ∃ W0, W0 = ((((w.alloc (.cells #[.slice none 0 0] 22)).alloc (.cells #[.int .i64 0] 3)).alloc (.cells #[.int .i64 0] 25)).alloc (.cells #[.slice none 0 0] 22)).alloc (.cells #[.string a0] 9) := ⟨_, rfl⟩
  have hsz : W0.heap.size = w.heap.size + 5 := by rw [hW0]; simp [World.size_alloc]
  have hB0 : Below w.heap.size w W0 := by rw [hW0]; exact below_alloc (below_alloc (below_alloc (below_alloc (below_alloc (Below.refl _ _) _) _) _) _) _
  have x0 : Boxed W0 w.heap.size 22 (.slice none 0 0) := by rw [hW0]; exact ((((Boxed.new w 22 _).alloc _).alloc _).alloc _).alloc _
  have x1 : Boxed W0 (w.heap.size + 1) 3 (.int .i64 0) := by
   rw [hW0]
   have := (((Boxed.new (w.alloc (.cells #[.slice none 0 0] 22)) 3 (.int .i64 0)).alloc (.cells #[.int .i64 0] 25)).alloc (.cells #[.slice none 0 0] 22)).alloc (.cells #[.string a0] 9)
   simpa only [World.size_alloc] using this
  have x2 : Boxed W0 (w.heap.size + 2) 25 (.int .i64 0) := by
   rw [hW0]
   have := ((Boxed.new ((w.alloc (.cells #[.slice none 0 0] 22)).alloc (.cells #[.int .i64 0] 3)) 25 (.int .i64 0)).alloc (.cells #[.slice none 0 0] 22)).alloc (.cells #[.string a0] 9)
   simpa only [World.size_alloc] using this
  have x3 : Boxed W0 (w.heap.size + 3) 22 (.slice none 0 0) := by
   rw [hW0]
   have := (Boxed.new (((w.alloc (.cells #[.slice none 0 0] 22)).alloc (.cells #[.int .i64 0] 3)).alloc (.cells #[.int .i64 0] 25)) 22 (.slice none 0 0)).alloc (.cells #[.string a0] 9)
   simpa only [World.size_alloc] using this
  have x4 : Boxed W0 (w.heap.size + 4) 9 (.string a0) := by
   rw [hW0]
   have := Boxed.new ((((w.alloc (.cells #[.slice none 0 0] 22)).alloc (.cells #[.int .i64 0] 3)).alloc (.cells #[.int .i64 0] 25)).alloc (.cells #[.slice none 0 0] 22)) 9 (.string a0)
   simpa only [World.size_alloc] using this
  gi_wp2_with (refine ⟨trivial, ?_⟩; gi_at_call 44; refine (lines_calls a0 _).mono ?_; rintro e w' ⟨rfl, rfl⟩)
  have hseq := lines_box (w.heap.size + 4) a0 (by omega) W0 x4
  try simp only [World.size_alloc]
  rw [← hW0]
  refine wpIn_rangeFunc_box (F := Fence.wide) (n := 5) (b := w.heap.size + 4) rfl (by decide) (gf := 54) (lb := #[.pointer (some ⟨w.heap.size + 4, 0, none⟩)]) rfl trivial (enters_of Tryd.func54 (by kernel_rfl) rfl) hseq (by omega) (Below.refl _ _) (fun _ => rfl)
   (density_Parse.I k a0 (r1, r2, r3) w) (density_Parse.Ix (r1, r2, r3) w) ?hIG ?hI ?hIx ?h0
   (fun x => { tmps := #[.string a0, undef, .pointer (some ⟨w.heap.size, 0, none⟩), .pointer (some ⟨w.heap.size + 1, 0, none⟩), .pointer (some ⟨w.heap.size + 1 + 1, 0, none⟩), .pointer (some ⟨w.heap.size + 1 + 1 + 1, 0, none⟩), .string x.1, .bool x.2, undef, undef, undef, undef, undef, undef, undef, .string a0, .int .i64 (a0.size : Int), .bool false, .string a0, .func (.func 54) #[] #[.pointer (some ⟨w.heap.size + 1 + 1 + 1 + 1, 0, none⟩)], .string x.1, .bool x.2, undef, undef, undef, undef, undef, undef, undef, undef, undef, undef, undef, undef, undef, undef, undef, undef, undef, undef, undef, undef, undef, undef, undef, undef, undef, undef, undef, undef, undef, undef, undef, undef, undef, undef, undef, undef, undef, undef, undef, undef, undef, undef, undef, undef, undef, undef, undef, undef, undef, undef, undef, undef, undef, undef, undef, undef, undef, undef, undef, undef], defers := [] }) ?assign ?body ?done ?stop
  case hIG =>
   rintro pre W ⟨_, _, _, _, _, _, _, _, hB, _⟩
   exact GI.below hG hB
  case hI =>
   rintro s W W' row ⟨acc, v, rest, q1, q2, hv, ho, ⟨y0, y1, y2⟩, hB, hW5⟩ hg hr
   rw [hsz] at hr
   exact ⟨acc, v, rest, q1, q2, box_turn hv hg hr (by omega) (by omega), own_turn ho hg hr (by omega), ⟨box_turn y0 hg hr (by omega) (by omega), box_turn y1 hg hr (by omega) (by omega), box_turn y2 hg hr (by omega) (by omega)⟩, hB.grown hg hB.size (fun k e => by rcases hr k e with q | q <;> omega), Nat.le_trans hW5 hg.size⟩
  case hIx =>
   rintro s W W' row ⟨q1, ⟨y0, y1, y2⟩, hB⟩ hg hr
   rw [hsz] at hr
   exact ⟨q1, ⟨box_turn y0 hg hr (by omega) (by omega), box_turn y1 hg hr (by omega) (by omega), box_turn y2 hg hr (by omega) (by omega)⟩, hB.grown hg hB.size (fun k e => by rcases hr k e with q | q <;> omega)⟩
  case h0 => exact ⟨[], _, lns a0, rfl, h, x3, World.ownsRow_nil _ _ _ _, ⟨x0, x1, x2⟩, hB0, by omega⟩
  case assign =>
   intro l x W K hK
   dsimp only [lencs]
   gi_wp2
   exact hK
  case body =>
   rintro l pre x W ⟨acc, v, rest, q1, q2, hv, ho, ⟨y0, y1, y2⟩, hB, hW5⟩ hpre
   obtain ⟨more, hmore⟩ := hpre
   have hrest : rest = x :: more := by
    rw [← hmore, List.append_assoc] at q1
    exact (List.append_cancel_left q1).symm
   subst hrest
   unfold density_Parse.rows at q2
   by_cases hacc : acc.length < 4294967296
   case neg => rw [if_neg hacc] at q2; cases q2
   rw [if_pos hacc] at q2
   replace q2 := Option.bind_eq_some_iff.mp q2
   obtain ⟨y, hy, q2⟩ := q2
   unfold density_Parse.line at hy
   replace hy := Option.bind_eq_some_iff.mp hy
   obtain ⟨ws, hws, hy⟩ := hy
   obtain ⟨Av, cv, rfl⟩ := own_slice ho
   have hGW := GI.below hG hB
   have mixed : Tryd.prog.follows Departure.mixedOrders = true := by kernel_rfl
   have hc := hv.cell
   have c0 := y0.cell
   have c1 := y1.cell
   have c2 := y2.cell
   have f0 := y0.frozen
   have f1 := y1.frozen
   have f2 := y2.frozen
   obtain ⟨xs, xb⟩ := x
   dsimp only at hws hy ⊢
   cases xb with
   | false =>
    rw [if_neg (fun q => by cases q.1)] at hy
    cases hy
    cases q2
    gi_wp2_with (refine ⟨trivial, ?_⟩; gi_at_call 45; refine (CallsIn.inRound l (callsIn_wide.2 (strings_Split.calls xs ⟨#[32]⟩ ws W hGW hws))).mono ?_; rintro e w1 ⟨vw, rfl, hRw, hb1⟩; have z0 : w1.cell? ⟨w.heap.size, 0, none⟩ = some (.slice none 0 0) := (box_facts y0 hb1).1; have z1 : w1.cell? ⟨w.heap.size + 1, 0, none⟩ = some (.int .i64 0) := (box_facts y1 hb1).1; have z2 : w1.cell? ⟨w.heap.size + 1 + 1, 0, none⟩ = some (.int .i64 0) := (box_facts y2 hb1).1; have z3 : w1.cell? ⟨w.heap.size + 1 + 1 + 1, 0, none⟩ = some (.slice Av acc.length cv) := (box_facts hv hb1).1; have g0 : w1.frozen? ⟨w.heap.size, 0, none⟩ = false := (box_facts y0 hb1).2; have g1 : w1.frozen? ⟨w.heap.size + 1, 0, none⟩ = false := (box_facts y1 hb1).2; have g2 : w1.frozen? ⟨w.heap.size + 1 + 1, 0, none⟩ = false := (box_facts y2 hb1).2)
    gi_region_o
    all_goals gi_wp2
    all_goals exact density_Parse.failed acc.length _ hB hb1 (by omega) y0 y1 y2
   | true =>
    by_cases hlen : ws.length = 4
    case neg =>
     have hl4 : ¬ ((ws.length : Int) = 4) := by omega
     rw [if_neg (fun q => hlen q.2.1)] at hy
     cases hy
     cases q2
     gi_wp2_with (refine ⟨trivial, ?_⟩; gi_at_call 45; refine (CallsIn.inRound l (callsIn_wide.2 (strings_Split.calls xs ⟨#[32]⟩ ws W hGW hws))).mono ?_; rintro e w1 ⟨vw, rfl, hRw, hb1⟩; obtain ⟨A, cw, rfl, hcw, _⟩ := split_row hRw; have z0 : w1.cell? ⟨w.heap.size, 0, none⟩ = some (.slice none 0 0) := (box_facts y0 hb1).1; have z1 : w1.cell? ⟨w.heap.size + 1, 0, none⟩ = some (.int .i64 0) := (box_facts y1 hb1).1; have z2 : w1.cell? ⟨w.heap.size + 1 + 1, 0, none⟩ = some (.int .i64 0) := (box_facts y2 hb1).1; have z3 : w1.cell? ⟨w.heap.size + 1 + 1 + 1, 0, none⟩ = some (.slice Av acc.length cv) := (box_facts hv hb1).1; have g0 : w1.frozen? ⟨w.heap.size, 0, none⟩ = false := (box_facts y0 hb1).2; have g1 : w1.frozen? ⟨w.heap.size + 1, 0, none⟩ = false := (box_facts y1 hb1).2; have g2 : w1.frozen? ⟨w.heap.size + 1 + 1, 0, none⟩ = false := (box_facts y2 hb1).2)
     gi_region_o
     all_goals gi_wp2
     all_goals exact density_Parse.failed acc.length _ hB hb1 (by omega) y0 y1 y2
    case pos =>
     obtain ⟨s0, s1, s2, s3, rfl⟩ : ∃ a b c d, ws = [a, b, c, d] := by
      match ws, hlen with
      | [a, b, d, e], _ => exact ⟨a, b, d, e, rfl⟩
     replace hy : (if True ∧ True ∧ s0.toList = [115, 116, 114, 101, 110, 103, 116, 104] ∧ s2.toList = [100, 101, 110, 115, 105, 116, 121] then (density_number.f s1).bind fun s => (density_number.f s3).bind fun d => if s.2 = true ∧ d.2 = true then some (some (⟨s.1, d.1⟩ : S30)) else some none else some none) = some y := by
      rw [← hy]
      congr 1
      simp
     by_cases hs0 : s0.toList = [115, 116, 114, 101, 110, 103, 116, 104]
     case neg =>
      rw [if_neg (fun q => hs0 q.2.2.1)] at hy
      cases hy
      cases q2
      gi_wp2_with (refine ⟨trivial, ?_⟩; gi_at_call 45; refine (CallsIn.inRound l (callsIn_wide.2 (strings_Split.calls xs ⟨#[32]⟩ [s0, s1, s2, s3] W hGW hws))).mono ?_; rintro e w1 ⟨vw, rfl, hRw, hb1⟩; obtain ⟨gw, cw, rfl, hcw, k0, k1, k2, k3⟩ := split_row4 hRw rfl; have z0 : w1.cell? ⟨w.heap.size, 0, none⟩ = some (.slice none 0 0) := (box_facts y0 hb1).1; have z1 : w1.cell? ⟨w.heap.size + 1, 0, none⟩ = some (.int .i64 0) := (box_facts y1 hb1).1; have z2 : w1.cell? ⟨w.heap.size + 1 + 1, 0, none⟩ = some (.int .i64 0) := (box_facts y2 hb1).1; have z3 : w1.cell? ⟨w.heap.size + 1 + 1 + 1, 0, none⟩ = some (.slice Av acc.length cv) := (box_facts hv hb1).1; have g0 : w1.frozen? ⟨w.heap.size, 0, none⟩ = false := (box_facts y0 hb1).2; have g1 : w1.frozen? ⟨w.heap.size + 1, 0, none⟩ = false := (box_facts y1 hb1).2; have g2 : w1.frozen? ⟨w.heap.size + 1 + 1, 0, none⟩ = false := (box_facts y2 hb1).2)
      gi_region_o
      all_goals gi_wp2
      all_goals exact density_Parse.failed acc.length _ hB hb1 (by omega) y0 y1 y2
     by_cases hs2 : s2.toList = [100, 101, 110, 115, 105, 116, 121]
     case neg =>
      have hx2 : (s2.toList == [100, 101, 110, 115, 105, 116, 121]) = false := beq_eq_false_iff_ne.mpr hs2
      rw [if_neg (fun q => hs2 q.2.2.2)] at hy
      cases hy
      cases q2
      gi_wp2_with (refine ⟨trivial, ?_⟩; gi_at_call 45; refine (CallsIn.inRound l (callsIn_wide.2 (strings_Split.calls xs ⟨#[32]⟩ [s0, s1, s2, s3] W hGW hws))).mono ?_; rintro e w1 ⟨vw, rfl, hRw, hb1⟩; obtain ⟨gw, cw, rfl, hcw, k0, k1, k2, k3⟩ := split_row4 hRw rfl; have z0 : w1.cell? ⟨w.heap.size, 0, none⟩ = some (.slice none 0 0) := (box_facts y0 hb1).1; have z1 : w1.cell? ⟨w.heap.size + 1, 0, none⟩ = some (.int .i64 0) := (box_facts y1 hb1).1; have z2 : w1.cell? ⟨w.heap.size + 1 + 1, 0, none⟩ = some (.int .i64 0) := (box_facts y2 hb1).1; have z3 : w1.cell? ⟨w.heap.size + 1 + 1 + 1, 0, none⟩ = some (.slice Av acc.length cv) := (box_facts hv hb1).1; have g0 : w1.frozen? ⟨w.heap.size, 0, none⟩ = false := (box_facts y0 hb1).2; have g1 : w1.frozen? ⟨w.heap.size + 1, 0, none⟩ = false := (box_facts y1 hb1).2; have g2 : w1.frozen? ⟨w.heap.size + 1 + 1, 0, none⟩ = false := (box_facts y2 hb1).2)
      gi_region_o
      all_goals gi_wp2
      all_goals exact density_Parse.failed acc.length _ hB hb1 (by omega) y0 y1 y2
     rw [if_pos ⟨trivial, trivial, hs0, hs2⟩] at hy
     replace hy := Option.bind_eq_some_iff.mp hy
     obtain ⟨⟨n1, o1⟩, hn1, hy⟩ := hy
     replace hy := Option.bind_eq_some_iff.mp hy
     obtain ⟨⟨n3, o3⟩, hn3, hy⟩ := hy
     obtain ⟨i0, hi0, hz0, hzs, hzb⟩ := info_parts info30
     cases o1 with
     | false =>
      rw [if_neg (fun q => by cases q.1)] at hy
      cases hy
      cases q2
      gi_wp2_with (first | (refine ⟨trivial, ?_⟩; gi_at_call 45; refine (CallsIn.inRound l (callsIn_wide.2 (strings_Split.calls xs ⟨#[32]⟩ [s0, s1, s2, s3] W hGW hws))).mono ?_; rintro e w1 ⟨vw, rfl, hRw, hb1⟩; obtain ⟨gw, cw, rfl, hcw, k0, k1, k2, k3⟩ := split_row4 hRw rfl; have lw1 := block_lt_of_cell k3; have hGW1 := GI.below hGW hb1) | (refine ⟨trivial, ?_⟩; gi_at_call 46; refine (CallsIn.inRound l (callsIn_wide.2 (density_number.calls s1 n1 false w1 hGW1 hn1))).mono ?_; rintro e w2 ⟨rfl, hb2⟩; have k3' : w2.cell? ⟨gw, 3, none⟩ = some (.string s3) := (hb2.cell (p := ⟨gw, 3, none⟩) lw1).trans k3; have hGW2 := GI.below hGW1 hb2; clear hn1) | (refine ⟨trivial, ?_⟩; gi_at_call 46; refine (CallsIn.inRound l (callsIn_wide.2 (density_number.calls s3 n3 o3 w2 hGW2 hn3))).mono ?_; rintro e w3 ⟨rfl, hb3⟩; have hb13 := below_step (below_step hb1 hb2) hb3; have z0 : w3.cell? ⟨w.heap.size, 0, none⟩ = some (.slice none 0 0) := (box_facts y0 hb13).1; have z1 : w3.cell? ⟨w.heap.size + 1, 0, none⟩ = some (.int .i64 0) := (box_facts y1 hb13).1; have z2 : w3.cell? ⟨w.heap.size + 1 + 1, 0, none⟩ = some (.int .i64 0) := (box_facts y2 hb13).1; have z3 : w3.cell? ⟨w.heap.size + 1 + 1 + 1, 0, none⟩ = some (.slice Av acc.length cv) := (box_facts hv hb13).1; have g0 : w3.frozen? ⟨w.heap.size, 0, none⟩ = false := (box_facts y0 hb13).2; have g1 : w3.frozen? ⟨w.heap.size + 1, 0, none⟩ = false := (box_facts y1 hb13).2; have g2 : w3.frozen? ⟨w.heap.size + 1 + 1, 0, none⟩ = false := (box_facts y2 hb13).2))
      gi_region_o
      all_goals gi_wp2
      all_goals exact density_Parse.failed acc.length _ hB hb13 (by omega) y0 y1 y2
     | true =>
      cases o3 with
      | false =>
       rw [if_neg (fun q => by cases q.2)] at hy
       cases hy
       cases q2
       gi_wp2_with (first | (refine ⟨trivial, ?_⟩; gi_at_call 45; refine (CallsIn.inRound l (callsIn_wide.2 (strings_Split.calls xs ⟨#[32]⟩ [s0, s1, s2, s3] W hGW hws))).mono ?_; rintro e w1 ⟨vw, rfl, hRw, hb1⟩; obtain ⟨gw, cw, rfl, hcw, k0, k1, k2, k3⟩ := split_row4 hRw rfl; have lw1 := block_lt_of_cell k3; have hGW1 := GI.below hGW hb1) | (refine ⟨trivial, ?_⟩; gi_at_call 46; refine (CallsIn.inRound l (callsIn_wide.2 (density_number.calls s1 n1 true w1 hGW1 hn1))).mono ?_; rintro e w2 ⟨rfl, hb2⟩; have k3' : w2.cell? ⟨gw, 3, none⟩ = some (.string s3) := (hb2.cell (p := ⟨gw, 3, none⟩) lw1).trans k3; have hGW2 := GI.below hGW1 hb2; clear hn1) | (refine ⟨trivial, ?_⟩; gi_at_call 46; refine (CallsIn.inRound l (callsIn_wide.2 (density_number.calls s3 n3 false w2 hGW2 hn3))).mono ?_; rintro e w3 ⟨rfl, hb3⟩; have hb13 := below_step (below_step hb1 hb2) hb3; have z0 : w3.cell? ⟨w.heap.size, 0, none⟩ = some (.slice none 0 0) := (box_facts y0 hb13).1; have z1 : w3.cell? ⟨w.heap.size + 1, 0, none⟩ = some (.int .i64 0) := (box_facts y1 hb13).1; have z2 : w3.cell? ⟨w.heap.size + 1 + 1, 0, none⟩ = some (.int .i64 0) := (box_facts y2 hb13).1; have z3 : w3.cell? ⟨w.heap.size + 1 + 1 + 1, 0, none⟩ = some (.slice Av acc.length cv) := (box_facts hv hb13).1; have g0 : w3.frozen? ⟨w.heap.size, 0, none⟩ = false := (box_facts y0 hb13).2; have g1 : w3.frozen? ⟨w.heap.size + 1, 0, none⟩ = false := (box_facts y1 hb13).2; have g2 : w3.frozen? ⟨w.heap.size + 1 + 1, 0, none⟩ = false := (box_facts y2 hb13).2))
       gi_region_o
       all_goals gi_wp2
       all_goals exact density_Parse.failed acc.length _ hB hb13 (by omega) y0 y1 y2
      | true =>
       rw [if_pos ⟨rfl, rfl⟩] at hy
       cases hy
       gi_wp2_with (first | (refine ⟨trivial, ?_⟩; gi_at_call 45; refine (CallsIn.inRound l (callsIn_wide.2 (strings_Split.calls xs ⟨#[32]⟩ [s0, s1, s2, s3] W hGW hws))).mono ?_; rintro e w1 ⟨vw, rfl, hRw, hb1⟩; obtain ⟨gw, cw, rfl, hcw, k0, k1, k2, k3⟩ := split_row4 hRw rfl; have lw1 := block_lt_of_cell k3; have hGW1 := GI.below hGW hb1) | (refine ⟨trivial, ?_⟩; gi_at_call 46; refine (CallsIn.inRound l (callsIn_wide.2 (density_number.calls s1 n1 true w1 hGW1 hn1))).mono ?_; rintro e w2 ⟨rfl, hb2⟩; have k3' : w2.cell? ⟨gw, 3, none⟩ = some (.string s3) := (hb2.cell (p := ⟨gw, 3, none⟩) lw1).trans k3; have hGW2 := GI.below hGW1 hb2; clear hn1) | (refine ⟨trivial, ?_⟩; gi_at_call 46; refine (CallsIn.inRound l (callsIn_wide.2 (density_number.calls s3 n3 true w2 hGW2 hn3))).mono ?_; rintro e w3 ⟨rfl, hb3⟩; have hb13 := below_step (below_step hb1 hb2) hb3; have z0 : w3.cell? ⟨w.heap.size, 0, none⟩ = some (.slice none 0 0) := (box_facts y0 hb13).1; have z1 : w3.cell? ⟨w.heap.size + 1, 0, none⟩ = some (.int .i64 0) := (box_facts y1 hb13).1; have z2 : w3.cell? ⟨w.heap.size + 1 + 1, 0, none⟩ = some (.int .i64 0) := (box_facts y2 hb13).1; have z3 : w3.cell? ⟨w.heap.size + 1 + 1 + 1, 0, none⟩ = some (.slice Av acc.length cv) := (box_facts hv hb13).1; have g0 : w3.frozen? ⟨w.heap.size, 0, none⟩ = false := (box_facts y0 hb13).2; have g1 : w3.frozen? ⟨w.heap.size + 1, 0, none⟩ = false := (box_facts y1 hb13).2; have g2 : w3.frozen? ⟨w.heap.size + 1 + 1, 0, none⟩ = false := (box_facts y2 hb13).2) | (gi_at_builtin; refine wpListIn_append_own _ rfl _ _ 22 rfl (w.heap.size + 5) 30 i0 (.agg #[(.int .i64 0), (.int .i64 0)]) 2 16 Tryd.underlying22 hi0 hz0 hzs hzb rfl (by decide) _ _ _ rfl (own_alloc (pw_own_below ho hb13) _) ⟨w3.heap.size, 0, none⟩ 1 1 [.int .i64 n1, .int .i64 n3] rfl rfl (two_cells _ _ _ _) (by simp [Value.oneCell']) (by unfold maxLen; omega) (by omega) (by have := hb13.size; rw [World.size_alloc]; omega) ?_; intro v' w4 hown' hgrow _; obtain ⟨g', cap', rfl⟩ := ownsRow_succ hown'; have hc4 : w4.cell? ⟨w.heap.size + 1 + 1 + 1, 0, none⟩ = some (.slice Av acc.length cv) := (box_grown hv hb13 (by decide) (pw_own_below ho hb13) hgrow).cell; have hf4 : w4.frozen? ⟨w.heap.size + 1 + 1 + 1, 0, none⟩ = false := (box_grown hv hb13 (by decide) (pw_own_below ho hb13) hgrow).frozen))
       exact density_Parse.went hsz (by rw [q1, List.append_assoc]; rfl) q2 hB hb13 hv ho (by omega) y0 y1 y2 hown' hgrow
  case done =>
   rintro W ⟨acc, v, rest, q1, q2, hv, ho, ⟨y0, y1, y2⟩, hB, hW5⟩ hD
   have hrest : rest = [] := by simpa using q1
   subst hrest
   unfold density_Parse.rows at q2
   replace q2 := Option.bind_eq_some_iff.mp q2
   obtain ⟨⟨d1, d2⟩, hck, q2⟩ := q2
   obtain ⟨Av, cv, hse, hle, hC⟩ := Kd.R_reads (own_R30 ho)
   subst hse
   have hc : W.cell? ⟨w.heap.size + 1 + 1 + 1, 0, none⟩ = some (.slice Av acc.length cv) := hv.cell
   have hDs : w.heap.size + 5 ≤ W0.heap.size := by omega
   by_cases hd : d2 = 0
   ·
    rw [if_pos hd] at q2
    cases q2
    subst hd
    gi_wp2_with (refine ⟨trivial, ?_⟩; gi_at_call 12; refine (callsIn_wide.2 (density_Check.calls k Av cv r1 d1 0 W hC hle hck)).mono ?_; rintro e w1 ⟨rfl, hb1⟩; have z0 : w1.cell? ⟨w.heap.size, 0, none⟩ = some (.slice none 0 0) := (box_facts y0 hb1).1; have z1 : w1.cell? ⟨w.heap.size + 1, 0, none⟩ = some (.int .i64 0) := (box_facts y1 hb1).1; have z2 : w1.cell? ⟨w.heap.size + 1 + 1, 0, none⟩ = some (.int .i64 0) := (box_facts y2 hb1).1; have z3 : w1.cell? ⟨w.heap.size + 1 + 1 + 1, 0, none⟩ = some (.slice Av r1.length cv) := (box_facts hv hb1).1; have g0 : w1.frozen? ⟨w.heap.size, 0, none⟩ = false := (box_facts y0 hb1).2; have g1 : w1.frozen? ⟨w.heap.size + 1, 0, none⟩ = false := (box_facts y1 hb1).2; have g2 : w1.frozen? ⟨w.heap.size + 1 + 1, 0, none⟩ = false := (box_facts y2 hb1).2)
    have hDD : W0.heap.size = w.heap.size + 1 + 1 + 1 + 1 + 1 := by omega
    rw [hDD] at hD hDs
    obtain ⟨hK, b0, b1, b2, hB', hrow⟩ := density_Parse.stored (.slice Av r1.length cv) (.int .i64 (-1)) (.int .i64 0) hD hb1 hDs y0 y1 y2 hB ho
    exact density_Parse.leave hK hDs b0 b1 b2 hB' hrow rfl rfl rfl
   ·
    rw [if_neg hd] at q2
    cases q2
    have hdd : ¬ (d2 = 0) := hd
    gi_wp2_with (refine ⟨trivial, ?_⟩; gi_at_call 12; refine (callsIn_wide.2 (density_Check.calls k Av cv acc d1 d2 W hC hle hck)).mono ?_; rintro e w1 ⟨rfl, hb1⟩; have z0 : w1.cell? ⟨w.heap.size, 0, none⟩ = some (.slice none 0 0) := (box_facts y0 hb1).1; have z1 : w1.cell? ⟨w.heap.size + 1, 0, none⟩ = some (.int .i64 0) := (box_facts y1 hb1).1; have z2 : w1.cell? ⟨w.heap.size + 1 + 1, 0, none⟩ = some (.int .i64 0) := (box_facts y2 hb1).1; have z3 : w1.cell? ⟨w.heap.size + 1 + 1 + 1, 0, none⟩ = some (.slice Av acc.length cv) := (box_facts hv hb1).1; have g0 : w1.frozen? ⟨w.heap.size, 0, none⟩ = false := (box_facts y0 hb1).2; have g1 : w1.frozen? ⟨w.heap.size + 1, 0, none⟩ = false := (box_facts y1 hb1).2; have g2 : w1.frozen? ⟨w.heap.size + 1 + 1, 0, none⟩ = false := (box_facts y2 hb1).2)
    have hDD : W0.heap.size = w.heap.size + 1 + 1 + 1 + 1 + 1 := by omega
    rw [hDD] at hD hDs
    obtain ⟨hK, b0, b1, b2, hB', hrow⟩ := density_Parse.stored (.slice none 0 0) (.int .i64 (-1)) (.int .i64 d2) hD hb1 hDs y0 y1 y2 hB (World.ownsRow_nil _ _ _ _ : W.ownsRow (w.heap.size + 5) 30 2 (.slice none 0 0) 0 [])
    exact density_Parse.leave (xs := []) hK hDs b0 b1 b2 hB' hrow rfl rfl rfl
  case stop =>
   rintro pre W _ ⟨hr1, ⟨y0, y1, y2⟩, hB⟩ hD
   dsimp only at hr1 y1 y2
   subst hr1
   gi_wp2
   exact density_Parse.leave hD (by omega) y0 y1 y2 hB (World.ownsRow_nil _ _ _ _) rfl rfl rfl
end
def spileref16_Lines.l0 : Nat → ByteArray → List ByteArray → Int → Int → Option (List ByteArray × Bool)
 | 0, _, _, _, _ => none
 | k + 1, x0, x4, x5, x6 => if x6 < (x0.size : Int) then (if 0 ≤ x6 then (if (bt x0 x6) = 10 then (if 0 ≤ x5 then (if x5 ≤ x6 then (if x6 ≤ (x0.size : Int) then (if x4.length < 8796093022208 then (spileref16_Lines.l0 k x0 (x4 ++ [x0.extract (x5 : Int).toNat (x6 : Int).toNat]) (wrap64 (x6 + 1)) (wrap64 (x6 + 1))) else (none)) else (none)) else (none)) else (none)) else (spileref16_Lines.l0 k x0 x4 x5 (wrap64 (x6 + 1)))) else (none)) else (if x5 < (x0.size : Int) then (if 0 ≤ x5 then (if x5 ≤ (x0.size : Int) then (if x4.length < 8796093022208 then (some ((x4 ++ [x0.extract (x5 : Int).toNat x0.size]), false)) else (none)) else (none)) else (none)) else (some (x4, true)))
def spileref16_Lines.f (k : Nat) (a0 : ByteArray) : Option (List ByteArray × Bool) := spileref16_Lines.l0 k a0 (([] : List ByteArray)) 0 0
def spileref16_Words.l0 : Nat → ByteArray → List ByteArray → Int → Int → Option (List ByteArray)
 | 0, _, _, _, _ => none
 | k + 1, x0, x3, x4, x5 => if x5 ≤ (x0.size : Int) then (if x5 = (x0.size : Int) then (if 0 ≤ x4 then (if x4 ≤ x5 then (if x3.length < 8796093022208 then (spileref16_Words.l0 k x0 (x3 ++ [x0.extract (x4 : Int).toNat (x5 : Int).toNat]) (wrap64 (x5 + 1)) (wrap64 (x5 + 1))) else (none)) else (none)) else (none)) else (if 0 ≤ x5 then (if x5 < (x0.size : Int) then (if (bt x0 x5) = 32 then (if 0 ≤ x4 then (if x4 ≤ x5 then (if x3.length < 8796093022208 then (spileref16_Words.l0 k x0 (x3 ++ [x0.extract (x4 : Int).toNat (x5 : Int).toNat]) (wrap64 (x5 + 1)) (wrap64 (x5 + 1))) else (none)) else (none)) else (none)) else (spileref16_Words.l0 k x0 x3 x4 (wrap64 (x5 + 1)))) else (none)) else (none))) else (some x3)
def spileref16_Words.f (k : Nat) (a0 : ByteArray) : Option (List ByteArray) := spileref16_Words.l0 k a0 (([] : List ByteArray)) 0 0
end Go.Proofs.YtoofoicocfnfoaaDoor.Pr
namespace Go.Proofs.YtoofoicocfnfoaaDoor.Pr
open Go.RowKit Go.Proofs.YtoofoicocfnfoaaDoorW.PrintWords Go.Proofs.YtoofoicocfnfoaaDoorW.PrintLast Go.Proofs.YtoofoicocfnfoaaDoorW.PrintMore Go.Proofs.YtoofoicocfnfoaaDoor.X
attribute [local go_sem] max2_int min2_int max_two min_two max_three min_three max_four min_four   -- for this text's walks alone
set_option linter.unusedVariables false
set_option linter.unusedSimpArgs false
mutual
def spileref16_Number.j0 : Nat → ByteArray → Bool → Option (Int × Bool)
 | 0, _, _ => none
 | k + 1, x0, x26 => if x26 = true then (some (0, false)) else (spileref16_Number.l0 k x0 0 0)
def spileref16_Number.l0 : Nat → ByteArray → Int → Int → Option (Int × Bool)
 | 0, _, _, _ => none
 | k + 1, x0, x6, x7 => if x7 < (x0.size : Int) then (if 0 ≤ x7 then (if (bt x0 x7) < 48 then (some (0, false)) else (if (bt x0 x7) > 57 then (some (0, false)) else (spileref16_Number.l0 k x0 (wrap64 ((wrap64 (10 * x6)) + (((bt x0 x7) - 48) % 256))) (wrap64 (x7 + 1))))) else (none)) else (some (x6, true))
end
def spileref16_Number.f (k : Nat) (a0 : ByteArray) (a1 : Int) : Option (Int × Bool) := if (a0.size : Int) < 1 then (spileref16_Number.j0 k a0 true) else (if (a0.size : Int) > a1 then (spileref16_Number.j0 k a0 true) else (if (a0.size : Int) > 1 then (if 0 < (a0.size : Int) then (spileref16_Number.j0 k a0 ((bt a0 0) == 48)) else (none)) else (spileref16_Number.j0 k a0 false)))
mutual
def spileref16_Parse.l0 : Nat → List ByteArray → Bool → List (S30) → Int → Option ((List (S30)) × Int × Int)
 | 0, _, _, _, _ => none
 | k + 1, x5, x6, x7, x8 => if x8 < (x5.length : Int) then (if 0 ≤ x8 then ((spileref16_Words.f k (rdOf ByteArray.empty x5 x8)).bind fun t363 => (if (t363.length : Int) = 4 then (if 0 < (t363.length : Int) then (if (rdOf ByteArray.empty t363 0).toList = ([115, 116, 114, 101, 110, 103, 116, 104] : List UInt8) then (if 2 < (t363.length : Int) then (if (rdOf ByteArray.empty t363 2).toList = ([100, 101, 110, 115, 105, 116, 121] : List UInt8) then (if x8 = (wrap64 ((x5.length : Int) - 1)) then (spileref16_Parse.j1 k x5 x6 x7 x8 t363 (!x6)) else (spileref16_Parse.j1 k x5 x6 x7 x8 t363 false)) else (spileref16_Parse.j1 k x5 x6 x7 x8 t363 true)) else (none)) else (spileref16_Parse.j1 k x5 x6 x7 x8 t363 true)) else (none)) else (spileref16_Parse.j1 k x5 x6 x7 x8 t363 true))) else (none)) else ((spileref16_Check.f k x7).bind fun bt360 => (if bt360.2 = 0 then (some (x7, (-1), 0)) else (some (([] : List (S30)), (-1), bt360.2))))
def spileref16_Parse.j1 : Nat → List ByteArray → Bool → List (S30) → Int → List ByteArray → Bool → Option ((List (S30)) × Int × Int)
 | 0, _, _, _, _, _, _ => none
 | k + 1, x5, x6, x7, x8, x9, x61 => if x61 = true then (some (([] : List (S30)), x8, 3)) else (if 1 < (x9.length : Int) then ((spileref16_Number.f k (rdOf ByteArray.empty x9 1) 6).bind fun bt369 => (if 3 < (x9.length : Int) then ((spileref16_Number.f k (rdOf ByteArray.empty x9 3) 6).bind fun bt372 => (if bt369.2 = true then (if bt372.2 = true then (if x7.length < 8796093022208 then (spileref16_Parse.l0 k x5 x6 (x7 ++ [(⟨bt369.1, bt372.1⟩ : S30)]) (wrap64 (x8 + 1))) else (none)) else (some (([] : List (S30)), x8, 3))) else (some (([] : List (S30)), x8, 3)))) else (none))) else (none))
end
def spileref16_Parse.f (k : Nat) (a0 : ByteArray) : Option ((List (S30)) × Int × Int) := if (a0.size : Int) > 65536 then (some (([] : List (S30)), (-1), 8)) else ((spileref16_Lines.f k a0).bind fun bt353 => (spileref16_Parse.l0 k bt353.1 bt353.2 (([] : List (S30))) 0))
end Go.Proofs.YtoofoicocfnfoaaDoor.Pr
namespace Go.Proofs.YtoofoicocfnfoaaDoor.Pr
open Go.RowKit Go.Proofs.YtoofoicocfnfoaaDoorW.PrintWords Go.Proofs.YtoofoicocfnfoaaDoorW.PrintLast Go.Proofs.YtoofoicocfnfoaaDoorW.PrintMore Go.Proofs.YtoofoicocfnfoaaDoor.X
attribute [local go_sem] max2_int min2_int max_two min_two max_three min_three max_four min_four   -- for this text's walks alone
set_option linter.unusedVariables false
set_option linter.unusedSimpArgs false
mutual
def spilelaw16_DensityBack.j0 : Nat → List (S30) → ByteArray → Bool → Option (Bool)
 | 0, _, _, _ => none
 | k + 1, x0, x1, x24 => if x24 = true then (some true) else ((density_Print.f k x0).bind fun bt396 => (if bt396.2 = 0 then ((density_Parse.f k bt396.1).bind fun bt398 => (if bt398.2.2 = 0 then (if bt398.2.1 = (-1) then ((api_Grade_23.f k bt398.1 x0).bind fun t403 => (if t403 = true then (spilelaw16_DensityBack.j1 k x1) else (some false))) else (some false)) else (some false))) else (if bt396.1.toList = ([] : List UInt8) then (spilelaw16_DensityBack.j1 k x1) else (some false))))
def spilelaw16_DensityBack.j1 : Nat → ByteArray → Option (Bool)
 | 0, _ => none
 | k + 1, x1 => (density_Parse.f k x1).bind fun bt404 => (if bt404.2.2 = 0 then ((density_Print.f k bt404.1).bind fun bt409 => (if bt409.2 = 0 then (some (bt409.1.toList == x1.toList)) else (some false))) else (some ((bt404.1.length : Int) == 0)))
end
def spilelaw16_DensityBack.f (k : Nat) (l0 : List (S30)) (a1 : ByteArray) : Option (Bool) := (spilelaw16_awake.f).bind fun t394 => (if t394 = true then ((spileref16_Few.f l0).bind fun t395 => (if t395 = true then (spilelaw16_DensityBack.j0 k l0 a1 (decide ((a1.size : Int) > 1000))) else (spilelaw16_DensityBack.j0 k l0 a1 true))) else (some false))
set_option maxHeartbeats 8000000 in
set_option maxRecDepth 100000 in
theorem spilelaw16_DensityBack.calls (k : Nat) (A0 : Option Addr) (c0 : Nat) (l0 : List (S30)) (a1 : ByteArray) (r : Bool) (w : World) (hr0 : Kd.C k30 w A0 l0.length l0) (hc0 : l0.length ≤ c0) (hG : GI w) (hr_ : r = true) (h : spilelaw16_DensityBack.f k l0 a1 = some r) :
  Calls Tryd.prog 9 #[.slice A0 l0.length c0, .string a1] w fun e w' => e = .returned (.bool r) ∧ Below w.heap.size w w' := by
 have HR0 := Aside0.mk hr0
 have HC0 := Aside0.mk hc0
 clear hr0 hc0
 have HG := Aside0.mk hG
 clear hG
 have HB := Aside0.mk (Below.refl w.heap.size w)
 have H : ((spilelaw16_awake.f).bind fun t394 => (if t394 = true then ((spileref16_Few.f l0).bind fun t395 => (if t395 = true then (spilelaw16_DensityBack.j0 k l0 a1 (decide ((a1.size : Int) > 1000))) else (spilelaw16_DensityBack.j0 k l0 a1 true))) else (some false))) = some r := h
 clear h
 replace H := Option.bind_eq_some_iff.mp H
 obtain ⟨t394, A30, H⟩ := H
 replace H : (if t394 = true then ((spileref16_Few.f l0).bind fun t395 => (if t395 = true then (spilelaw16_DensityBack.j0 k l0 a1 (decide ((a1.size : Int) > 1000))) else (spilelaw16_DensityBack.j0 k l0 a1 true))) else (some false)) = some r := H
 have A3 := Aside0.mk A30
 clear A30
 by_cases c4 : t394 = true
 ·
  subst c4
  have H1 : ((spileref16_Few.f l0).bind fun t395 => (if t395 = true then (spilelaw16_DensityBack.j0 k l0 a1 (decide ((a1.size : Int) > 1000))) else (spilelaw16_DensityBack.j0 k l0 a1 true))) = some r := by rw [if_pos rfl] at H; exact H
  clear H
  have H := H1
  clear H1
  have HC5 := Aside0.mk H
  clear H
  go_enter Tryd.func9, Tryd.ntmps9
  go_upto_region 3 with (first | ((with_reducible refine gate_callee (f := 10) rfl ?_); refine goesL_ (some 15) rfl rfl Tryd.func10 (by kernel_rfl) rfl #[] rfl (by (try simp only [List.map_toArray, List.map_cons, List.map_nil]); first | done | rfl | (simp only [List.length_drop, List.length_take]; rfl)) ?_; (with_reducible refine (spilelaw16_awake.calls  true _ ?side1 A3.out).mono ?_); (case side1 => exact GI.below HG.out (by repeat (first | (with_reducible first | exact HB.out | apply below_alloc | apply pw_below_drewN | apply below_drew1) | exact HB.out))); rintro e w6 ⟨rfl, hb⟩; refine ⟨_, rfl, ?_⟩; have n0_ := Aside0.mk (below_step (by repeat (first | (with_reducible first | exact HB.out | apply below_alloc | apply pw_below_drewN | apply below_drew1) | exact HB.out)) hb); clear HB; have HB := n0_; clear n0_; (try clear hb); (try clear hb2); (try clear hk); (try clear hi)))
  (try simp only [Act.put, List.setIfInBounds_toArray, List.set_cons_zero, List.set_cons_succ])
  go_cut [24] (fun v24 wc => ∃ (kq : Nat) (x24_4 : Bool), v24 = .bool x24_4 ∧ Aside0 (spilelaw16_DensityBack.j0 kq l0 a1 x24_4 = some r) ∧ Aside0 (kq ≤ k) ∧ Aside0 (Below w.heap.size w wc))
  case first =>
   have H := HC5.out
   clear HC5
   replace H := Option.bind_eq_some_iff.mp H
   obtain ⟨t395, A70, H⟩ := H
   replace H : (if t395 = true then (spilelaw16_DensityBack.j0 k l0 a1 (decide ((a1.size : Int) > 1000))) else (spilelaw16_DensityBack.j0 k l0 a1 true)) = some r := H
   have A7 := Aside0.mk A70
   clear A70
   by_cases c8 : t395 = true
   ·
    subst c8
    have H1 : (spilelaw16_DensityBack.j0 k l0 a1 (decide ((a1.size : Int) > 1000))) = some r := by rw [if_pos rfl] at H; exact H
    clear H
    have H := H1
    clear H1
    have H' := Aside0.mk H
    clear H
    go_wp2_with (first | ((with_reducible refine gate_callee (f := 11) rfl ?_); refine goesL_ (some 18) rfl rfl Tryd.func11 (by kernel_rfl) rfl #[.slice A0 l0.length c0] rfl (by (try simp only [List.map_toArray, List.map_cons, List.map_nil]); first | done | rfl | (simp only [List.length_drop, List.length_take]; rfl)) ?_; (with_reducible refine (spileref16_Few.calls _ _ l0 true _ ?side1 ?side2 A7.out).mono ?_); (case side1 => repeat (first | exact (Kd.C_below HR0.out HB.out) | (with_reducible refine Kd.C_alloc ?_ _) | (with_reducible refine Kd.C_drewN ?_ _) | (with_reducible refine Kd.C_drew ?_))); (case side2 => exact HC0.out); rintro e w' ⟨rfl, ⟨nd, rfl⟩⟩; refine ⟨_, rfl, ?_⟩))
    go_meet
    case rel => exact ⟨_, (decide ((a1.size : Int) > 1000)), (by first | rfl | (simp; done) | (simp [*]; done)), H', ⟨by first | omega | exact Nat.le_refl _⟩, ⟨by repeat (first | (with_reducible first | exact HB.out | apply below_alloc | apply pw_below_drewN | apply below_drew1) | exact HB.out)⟩⟩
   ·
    replace c8 := Bool.eq_false_iff.mpr c8
    subst c8
    have H1 : (spilelaw16_DensityBack.j0 k l0 a1 true) = some r := by rw [if_neg (show ¬ (false = true) by decide)] at H; exact H
    clear H
    have H := H1
    clear H1
    have H' := Aside0.mk H
    clear H
    go_wp2_with (first | ((with_reducible refine gate_callee (f := 11) rfl ?_); refine goesL_ (some 18) rfl rfl Tryd.func11 (by kernel_rfl) rfl #[.slice A0 l0.length c0] rfl (by (try simp only [List.map_toArray, List.map_cons, List.map_nil]); first | done | rfl | (simp only [List.length_drop, List.length_take]; rfl)) ?_; (with_reducible refine (spileref16_Few.calls _ _ l0 false _ ?side1 ?side2 A7.out).mono ?_); (case side1 => repeat (first | exact (Kd.C_below HR0.out HB.out) | (with_reducible refine Kd.C_alloc ?_ _) | (with_reducible refine Kd.C_drewN ?_ _) | (with_reducible refine Kd.C_drew ?_))); (case side2 => exact HC0.out); rintro e w' ⟨rfl, ⟨nd, rfl⟩⟩; refine ⟨_, rfl, ?_⟩))
    go_meet
    case rel => exact ⟨_, (true), (by first | rfl | (simp; done) | (simp [*]; done)), H', ⟨by first | omega | exact Nat.le_refl _⟩, ⟨by repeat (first | (with_reducible first | exact HB.out | apply below_alloc | apply pw_below_drewN | apply below_drew1) | exact HB.out)⟩⟩
  case rest =>
   clear HC5
   try clear c1
   try clear p2
   try clear c4
   try clear c8
   obtain ⟨kq, x24_4, rfl, HA, HJ4, HB⟩ := hcut
   cases kq with
   | zero => exact absurd HA.out (by simp [spilelaw16_DensityBack.j0])
   | succ kj4 =>
    have H := HA.out
    clear HA
    simp only [spilelaw16_DensityBack.j0] at H
    by_cases c9 : x24_4 = true
    ·
     subst c9
     have H1 : (some true) = some r := by rw [if_pos rfl] at H; exact H
     clear H
     have H := H1
     clear H1
     obtain rfl := Option.some.inj H
     go_wp2
     go_ret
     exact ⟨by first | rfl | (simp [errW_none, errW_some] <;> rfl) | (simp [*, errW_none, errW_some] <;> rfl), by repeat (first | (with_reducible first | exact HB.out | apply below_alloc | apply pw_below_drewN | apply below_drew1) | exact HB.out)⟩
    ·
     replace c9 := Bool.eq_false_iff.mpr c9
     subst c9
     have H1 : ((density_Print.f kj4 l0).bind fun bt396 => (if bt396.2 = 0 then ((density_Parse.f kj4 bt396.1).bind fun bt398 => (if bt398.2.2 = 0 then (if bt398.2.1 = (-1) then ((api_Grade_23.f kj4 bt398.1 l0).bind fun t403 => (if t403 = true then (spilelaw16_DensityBack.j1 kj4 a1) else (some false))) else (some false)) else (some false))) else (if bt396.1.toList = ([] : List UInt8) then (spilelaw16_DensityBack.j1 kj4 a1) else (some false)))) = some r := by rw [if_neg (show ¬ (false = true) by decide)] at H; exact H
     clear H
     have H := H1
     clear H1
     replace H := Option.bind_eq_some_iff.mp H
     obtain ⟨⟨t396, t397⟩, A100, H⟩ := H
     replace H : (if t397 = 0 then ((density_Parse.f kj4 t396).bind fun bt398 => (if bt398.2.2 = 0 then (if bt398.2.1 = (-1) then ((api_Grade_23.f kj4 bt398.1 l0).bind fun t403 => (if t403 = true then (spilelaw16_DensityBack.j1 kj4 a1) else (some false))) else (some false)) else (some false))) else (if t396.toList = ([] : List UInt8) then (spilelaw16_DensityBack.j1 kj4 a1) else (some false))) = some r := H
     have A10 := Aside0.mk A100
     clear A100
     have HC11 := Aside0.mk H
     clear H
     go_upto_if 31 with (first | ((with_reducible refine gate_callee (f := 27) rfl ?_); refine goesL_ (some 27) rfl rfl Tryd.func27 (by kernel_rfl) rfl #[.slice A0 l0.length c0] rfl (by (try simp only [List.map_toArray, List.map_cons, List.map_nil]); first | done | rfl | (simp only [List.length_drop, List.length_take]; rfl)) ?_; (with_reducible refine (density_Print.calls kj4 _ _ l0 t396 t397 _ ?side1 ?side2 ?side3 A10.out).mono ?_); (case side1 => repeat (first | exact (Kd.C_below HR0.out HB.out) | (with_reducible refine Kd.C_alloc ?_ _) | (with_reducible refine Kd.C_drewN ?_ _) | (with_reducible refine Kd.C_drew ?_))); (case side2 => exact HC0.out); (case side3 => exact GI.below HG.out (by repeat (first | (with_reducible first | exact HB.out | apply below_alloc | apply pw_below_drewN | apply below_drew1) | exact HB.out))); rintro e w12 ⟨rfl, hb⟩; refine ⟨_, rfl, ?_⟩; have n0_ := Aside0.mk (below_step (by repeat (first | (with_reducible first | exact HB.out | apply below_alloc | apply pw_below_drewN | apply below_drew1) | exact HB.out)) hb); clear HB; have HB := n0_; clear n0_; (try clear hb); (try clear hb2); (try clear hk); (try clear hi)))
     (try simp only [Act.put, List.setIfInBounds_toArray, List.set_cons_zero, List.set_cons_succ])
     go_cut [] (fun wc => ∃ (kq : Nat), Aside0 (spilelaw16_DensityBack.j1 kq a1 = some r) ∧ Aside0 (kq ≤ kj4) ∧ Aside0 (Below w.heap.size w wc))
     case first =>
      have H := HC11.out
      clear HC11
      by_cases c13 : t397 = 0
      ·
       rw [if_pos c13] at H
       have c13b0 : (t397 == 0) = true := beq_iff_eq.mpr c13
       have c13b1 : (t397 != 0) = false := bne_eq_false_iff_eq.mpr c13
       clear c13
       (first | rw [c13b0] | (simp only [i64_w, i32_w]; rw [c13b0]) | skip)
       replace H := Option.bind_eq_some_iff.mp H
       obtain ⟨⟨t398, t399, t400⟩, A140, H⟩ := H
       replace H : (if t400 = 0 then (if t399 = (-1) then ((api_Grade_23.f kj4 t398 l0).bind fun t403 => (if t403 = true then (spilelaw16_DensityBack.j1 kj4 a1) else (some false))) else (some false)) else (some false)) = some r := H
       have A14 := Aside0.mk A140
       clear A140
       by_cases c15 : t400 = 0
       ·
        rw [if_pos c15] at H
        have c15b0 : (t400 == 0) = true := beq_iff_eq.mpr c15
        have c15b1 : (t400 != 0) = false := bne_eq_false_iff_eq.mpr c15
        clear c15
        by_cases c16 : t399 = (-1)
        ·
         rw [if_pos c16] at H
         have c16b0 : (t399 == (-1)) = true := beq_iff_eq.mpr c16
         have c16b1 : (t399 != (-1)) = false := bne_eq_false_iff_eq.mpr c16
         clear c16
         replace H := Option.bind_eq_some_iff.mp H
         obtain ⟨t403, A170, H⟩ := H
         replace H : (if t403 = true then (spilelaw16_DensityBack.j1 kj4 a1) else (some false)) = some r := H
         have A17 := Aside0.mk A170
         clear A170
         by_cases c18 : t403 = true
         ·
          subst c18
          have H1 : (spilelaw16_DensityBack.j1 kj4 a1) = some r := by rw [if_pos rfl] at H; exact H
          clear H
          have H := H1
          clear H1
          have H' := Aside0.mk H
          clear H
          go_wp2_with (first | ((with_reducible refine gate_callee (f := 29) rfl ?_); refine goesL_ (some 34) rfl rfl Tryd.func29 (by kernel_rfl) rfl #[.string t396] rfl (by (try simp only [List.map_toArray, List.map_cons, List.map_nil]); first | done | rfl | (simp only [List.length_drop, List.length_take]; rfl)) ?_; (with_reducible refine (density_Parse.calls kj4 t396 t398 t399 t400 _ ?side1 A14.out).mono ?_); (case side1 => exact GI.below HG.out (by repeat (first | (with_reducible first | exact HB.out | apply below_alloc | apply pw_below_drewN | apply below_drew1) | exact HB.out))); rintro e w19 ⟨v401, rfl, ho0, hb⟩; refine ⟨_, rfl, ?_⟩; have n0_ := Aside0.mk (Kd.R_lower ho0 (below_size (by repeat (first | (with_reducible first | exact HB.out | apply below_alloc | apply pw_below_drewN | apply below_drew1) | exact HB.out)))); have n1_ := Aside0.mk (below_step (by repeat (first | (with_reducible first | exact HB.out | apply below_alloc | apply pw_below_drewN | apply below_drew1) | exact HB.out)) hb); clear HB; have HO402 := n0_; have HB := n1_; clear n0_ n1_; (try clear hb); (try clear hb2); (try clear hk); (try clear hi); (try clear ho0); obtain ⟨Ao20, co20, eo20⟩ := Kd.R_slice HO402.out; subst eo20) | (go_at_call 23; (with_reducible refine (api_Grade_23.calls kj4 _ _ t398 _ _ l0 true _ ?side1 ?side2 ?side3 ?side4 A17.out).mono ?_); (case side1 => repeat (first | exact (Kd.R_reads' HO402.out).2.2 | (with_reducible refine Kd.C_alloc ?_ _) | (with_reducible refine Kd.C_drewN ?_ _) | (with_reducible refine Kd.C_drew ?_))); (case side2 => exact (Kd.R_reads' HO402.out).2.1); (case side3 => repeat (first | exact (Kd.C_below HR0.out HB.out) | (with_reducible refine Kd.C_alloc ?_ _) | (with_reducible refine Kd.C_drewN ?_ _) | (with_reducible refine Kd.C_drew ?_))); (case side4 => exact HC0.out); rintro e w' ⟨rfl, ⟨nd, rfl⟩⟩))
          go_meet
          case rel => exact ⟨_, H', ⟨by have := HJ4.out; first | omega | exact Nat.le_refl _⟩, ⟨by repeat (first | (with_reducible first | exact HB.out | apply below_alloc | apply pw_below_drewN | apply below_drew1) | exact HB.out)⟩⟩
         ·
          replace c18 := Bool.eq_false_iff.mpr c18
          subst c18
          have H1 : (some false) = some r := by rw [if_neg (show ¬ (false = true) by decide)] at H; exact H
          clear H
          have H := H1
          clear H1
          subst hr_
          exact absurd H (by simp)
        ·
         rw [if_neg c16] at H
         have c16b0 : (t399 == (-1)) = false := beq_eq_false_iff_ne.mpr c16
         have c16b1 : (t399 != (-1)) = true := bne_iff_ne.mpr c16
         subst hr_
         exact absurd H (by simp)
       ·
        rw [if_neg c15] at H
        have c15b0 : (t400 == 0) = false := beq_eq_false_iff_ne.mpr c15
        have c15b1 : (t400 != 0) = true := bne_iff_ne.mpr c15
        subst hr_
        exact absurd H (by simp)
      ·
       rw [if_neg c13] at H
       have c13b0 : (t397 == 0) = false := beq_eq_false_iff_ne.mpr c13
       have c13b1 : (t397 != 0) = true := bne_iff_ne.mpr c13
       (first | rw [c13b0] | (simp only [i64_w, i32_w]; rw [c13b0]) | skip)
       by_cases c21 : t396.toList = ([] : List UInt8)
       ·
        rw [if_pos c21] at H
        have c21b0 : (t396.toList == ([] : List UInt8)) = true := beq_iff_eq.mpr c21
        have c21b1 : (t396.toList != ([] : List UInt8)) = false := bne_eq_false_iff_eq.mpr c21
        clear c21
        have H' := Aside0.mk H
        clear H
        go_wp2
        go_meet
        case rel => exact ⟨_, H', ⟨by have := HJ4.out; first | omega | exact Nat.le_refl _⟩, ⟨by repeat (first | (with_reducible first | exact HB.out | apply below_alloc | apply pw_below_drewN | apply below_drew1) | exact HB.out)⟩⟩
       ·
        rw [if_neg c21] at H
        have c21b0 : (t396.toList == ([] : List UInt8)) = false := beq_eq_false_iff_ne.mpr c21
        have c21b1 : (t396.toList != ([] : List UInt8)) = true := bne_iff_ne.mpr c21
        subst hr_
        exact absurd H (by simp)
     case rest =>
      clear HC11
      try clear c1
      try clear c2
      try clear p2
      try clear c4
      try clear c8
      try clear c9
      try clear c10
      try clear c11
      try clear c13
      try clear c13b0
      try clear c13b1
      try clear c15
      try clear c15b0
      try clear c15b1
      try clear c16
      try clear c16b0
      try clear c16b1
      try clear c18
      try clear c21
      try clear c21b0
      try clear c21b1
      try clear p2
      obtain ⟨kq, HA, HJ10, HB⟩ := hcut
      cases kq with
      | zero => exact absurd HA.out (by simp [spilelaw16_DensityBack.j1])
      | succ kj10 =>
       have H := HA.out
       clear HA
       simp only [spilelaw16_DensityBack.j1] at H
       replace H := Option.bind_eq_some_iff.mp H
       obtain ⟨⟨t404, t405, t406⟩, A220, H⟩ := H
       replace H : (if t406 = 0 then ((density_Print.f kj10 t404).bind fun bt409 => (if bt409.2 = 0 then (some (bt409.1.toList == a1.toList)) else (some false))) else (some ((t404.length : Int) == 0))) = some r := H
       have A22 := Aside0.mk A220
       clear A220
       by_cases c23 : t406 = 0
       ·
        rw [if_pos c23] at H
        have c23b0 : (t406 == 0) = true := beq_iff_eq.mpr c23
        have c23b1 : (t406 != 0) = false := bne_eq_false_iff_eq.mpr c23
        clear c23
        replace H := Option.bind_eq_some_iff.mp H
        obtain ⟨⟨t409, t410⟩, A240, H⟩ := H
        replace H : (if t410 = 0 then (some (t409.toList == a1.toList)) else (some false)) = some r := H
        have A24 := Aside0.mk A240
        clear A240
        by_cases c25 : t410 = 0
        ·
         rw [if_pos c25] at H
         have c25b0 : (t410 == 0) = true := beq_iff_eq.mpr c25
         have c25b1 : (t410 != 0) = false := bne_eq_false_iff_eq.mpr c25
         clear c25
         obtain rfl := Option.some.inj H
         go_wp2_with (first | ((with_reducible refine gate_callee (f := 29) rfl ?_); refine goesL_ (some 54) rfl rfl Tryd.func29 (by kernel_rfl) rfl #[.string a1] rfl (by (try simp only [List.map_toArray, List.map_cons, List.map_nil]); first | done | rfl | (simp only [List.length_drop, List.length_take]; rfl)) ?_; (with_reducible refine (density_Parse.calls kj10 a1 t404 t405 t406 _ ?side1 A22.out).mono ?_); (case side1 => exact GI.below HG.out (by repeat (first | (with_reducible first | exact HB.out | apply below_alloc | apply pw_below_drewN | apply below_drew1) | exact HB.out))); rintro e w26 ⟨v407, rfl, ho0, hb⟩; refine ⟨_, rfl, ?_⟩; have n0_ := Aside0.mk (Kd.R_lower ho0 (below_size (by repeat (first | (with_reducible first | exact HB.out | apply below_alloc | apply pw_below_drewN | apply below_drew1) | exact HB.out)))); have n1_ := Aside0.mk (below_step (by repeat (first | (with_reducible first | exact HB.out | apply below_alloc | apply pw_below_drewN | apply below_drew1) | exact HB.out)) hb); clear HB; have HO408 := n0_; have HB := n1_; clear n0_ n1_; (try clear hb); (try clear hb2); (try clear hk); (try clear hi); (try clear ho0); obtain ⟨Ao27, co27, eo27⟩ := Kd.R_slice HO408.out; subst eo27) | ((with_reducible refine gate_callee (f := 27) rfl ?_); refine goesL_ (some 65) rfl rfl Tryd.func27 (by kernel_rfl) rfl #[.slice Ao27 t404.length co27] rfl (by (try simp only [List.map_toArray, List.map_cons, List.map_nil]); first | done | rfl | (simp only [List.length_drop, List.length_take]; rfl)) ?_; (with_reducible refine (density_Print.calls kj10 _ _ t404 t409 t410 _ ?side1 ?side2 ?side3 A24.out).mono ?_); (case side1 => repeat (first | exact (Kd.R_reads' HO408.out).2.2 | (with_reducible refine Kd.C_alloc ?_ _) | (with_reducible refine Kd.C_drewN ?_ _) | (with_reducible refine Kd.C_drew ?_))); (case side2 => exact (Kd.R_reads' HO408.out).2.1); (case side3 => exact GI.below HG.out (by repeat (first | (with_reducible first | exact HB.out | apply below_alloc | apply pw_below_drewN | apply below_drew1) | exact HB.out))); rintro e w28 ⟨rfl, hb⟩; refine ⟨_, rfl, ?_⟩; have n0_ := Aside0.mk (Kd.R_below (by (with_reducible repeat (first | apply Kd.R_alloc | apply Kd.R_drewN | apply Kd.R_drew)); exact HO408.out) hb); have n1_ := Aside0.mk (below_step (by repeat (first | (with_reducible first | exact HB.out | apply below_alloc | apply pw_below_drewN | apply below_drew1) | exact HB.out)) hb); clear HO408; clear HB; have HO408 := n0_; have HB := n1_; clear n0_ n1_; (try clear hb); (try clear hb2); (try clear hk); (try clear hi)))
         go_ret
         exact ⟨by first | rfl | (simp [errW_none, errW_some] <;> rfl) | (simp [*, errW_none, errW_some] <;> rfl), by repeat (first | (with_reducible first | exact HB.out | apply below_alloc | apply pw_below_drewN | apply below_drew1) | exact HB.out)⟩
        ·
         rw [if_neg c25] at H
         have c25b0 : (t410 == 0) = false := beq_eq_false_iff_ne.mpr c25
         have c25b1 : (t410 != 0) = true := bne_iff_ne.mpr c25
         subst hr_
         exact absurd H (by simp)
       ·
        rw [if_neg c23] at H
        have c23b0 : (t406 == 0) = false := beq_eq_false_iff_ne.mpr c23
        have c23b1 : (t406 != 0) = true := bne_iff_ne.mpr c23
        obtain rfl := Option.some.inj H
        go_wp2_with (first | ((with_reducible refine gate_callee (f := 29) rfl ?_); refine goesL_ (some 54) rfl rfl Tryd.func29 (by kernel_rfl) rfl #[.string a1] rfl (by (try simp only [List.map_toArray, List.map_cons, List.map_nil]); first | done | rfl | (simp only [List.length_drop, List.length_take]; rfl)) ?_; (with_reducible refine (density_Parse.calls kj10 a1 t404 t405 t406 _ ?side1 A22.out).mono ?_); (case side1 => exact GI.below HG.out (by repeat (first | (with_reducible first | exact HB.out | apply below_alloc | apply pw_below_drewN | apply below_drew1) | exact HB.out))); rintro e w29 ⟨v407, rfl, ho0, hb⟩; refine ⟨_, rfl, ?_⟩; have n0_ := Aside0.mk (Kd.R_lower ho0 (below_size (by repeat (first | (with_reducible first | exact HB.out | apply below_alloc | apply pw_below_drewN | apply below_drew1) | exact HB.out)))); have n1_ := Aside0.mk (below_step (by repeat (first | (with_reducible first | exact HB.out | apply below_alloc | apply pw_below_drewN | apply below_drew1) | exact HB.out)) hb); clear HB; have HO408 := n0_; have HB := n1_; clear n0_ n1_; (try clear hb); (try clear hb2); (try clear hk); (try clear hi); (try clear ho0); obtain ⟨Ao30, co30, eo30⟩ := Kd.R_slice HO408.out; subst eo30))
        go_ret
        exact ⟨by first | rfl | (simp [errW_none, errW_some] <;> rfl) | (simp [*, errW_none, errW_some] <;> rfl), by repeat (first | (with_reducible first | exact HB.out | apply below_alloc | apply pw_below_drewN | apply below_drew1) | exact HB.out)⟩
 ·
  replace c4 := Bool.eq_false_iff.mpr c4
  subst c4
  have H1 : (some false) = some r := by rw [if_neg (show ¬ (false = true) by decide)] at H; exact H
  clear H
  have H := H1
  clear H1
  subst hr_
  exact absurd H (by simp)
end Go.Proofs.YtoofoicocfnfoaaDoor.Pr
namespace Go.Proofs.YtoofoicocfnfoaaDoor.Opn
open Go Go.RowKit Go.Proofs.YtoofoicocfnfoaaDoorW.PrintWords Go.Proofs.YtoofoicocfnfoaaDoor.O Go.Proofs.YtoofoicocfnfoaaDoor.Pr
theorem opens3 : Opens Tryd.prog 3 (Kd.int .i64) (fun x => (Lit.int .i64 x).wf = true) := opens_int Tryd.underlying3 (by kernel_rfl)
def ok30 (x : S30) : Prop := (Lit.int .i64 x.f0).wf = true ∧ (Lit.int .i64 x.f1).wf = true
theorem opens30 : Opens Tryd.prog 30 k30 ok30 :=
  ⟨by kernel_rfl, fun H enc w base sp held fuel cs x h => by
    obtain ⟨xs, n, _, _, hl, hx, hf⟩ := DataW.trod_struct Tryd.underlying30 h
    have hc_ : Tryd.prog.cellsOf 30 = 2 := by kernel_rfl
    rw [hc_] at hl
    obtain ⟨c0, c1, rfl⟩ : ∃ c0 c1, cs = [c0, c1] := by
      clear h hf hx
      rcases cs with _ | ⟨c0, _ | ⟨c1, _ | ⟨_, _⟩⟩⟩
      all_goals first | exact ⟨_, _, rfl⟩ | (simp at hl)
    obtain ⟨y0, hy0⟩ : ∃ y, xs[0]? = some y := ⟨xs[0]'(by rw [hx]; decide), List.getElem?_eq_getElem _⟩
    have e0 : DataW.trod enc Tryd.prog w base sp held n 3 ((List.drop 0 [c0, c1]).take (Tryd.prog.cellsOf 3)) = xs[0]? := hf 0 _ rfl
    rw [hy0, show Tryd.prog.cellsOf 3 = 1 from by kernel_rfl] at e0
    obtain ⟨v0, K0, o0⟩ := opens3.2 H enc w base sp held n _ _ e0
    replace K0 : (Kd.int .i64).K w v0 [c0] := K0
    obtain ⟨y1, hy1⟩ : ∃ y, xs[1]? = some y := ⟨xs[1]'(by rw [hx]; decide), List.getElem?_eq_getElem _⟩
    have e1 : DataW.trod enc Tryd.prog w base sp held n 3 ((List.drop 1 [c0, c1]).take (Tryd.prog.cellsOf 3)) = xs[1]? := hf 1 _ rfl
    rw [hy1, show Tryd.prog.cellsOf 3 = 1 from by kernel_rfl] at e1
    obtain ⟨v1, K1, o1⟩ := opens3.2 H enc w base sp held n _ _ e1
    replace K1 : (Kd.int .i64).K w v1 [c1] := K1
    obtain rfl : c0 = _ := List.singleton_inj.1 K0
    obtain rfl : c1 = _ := List.singleton_inj.1 K1
    refine ⟨⟨v0, v1⟩, ?_, o0, o1⟩
    exact k30_mk w ⟨v0, v1⟩ ⟩
theorem opens22 : Opens Tryd.prog 22 (Kd.slice 30 k30) (fun x => (x.length ≤ maxLen ∧ ∀ x0_, x0_ ∈ x → ok30 x0_)) := opens_slice (P := Tryd.prog) (t := 22) (e := 30) Tryd.underlying22 (by kernel_rfl) opens30
end Go.Proofs.YtoofoicocfnfoaaDoor.Opn
namespace Go.Proofs.YtoofoicocfnfoaaDoor.Pure
open Go Go.RowKit Go.Proofs.YtoofoicocfnfoaaDoor.Pr Go.Proofs.YtoofoicocfnfoaaDoor.Opn
def densityBackPure : Prop := ∀ (l0 : (List S30)) (a1 : ByteArray), (l0.length ≤ maxLen ∧ ∀ x0_, x0_ ∈ l0 → ok30 x0_) → a1.size ≤ maxLen → ∃ k, spilelaw16_DensityBack.f k l0 a1 = some true
end Go.Proofs.YtoofoicocfnfoaaDoor.Pure
namespace Go.Proofs.YtoofoicocfnfoaaDoor.PL
open Go Go.RowKit Go.Proofs.YtoofoicocfnfoaaDoorW.PrintWords Go.Proofs.YtoofoicocfnfoaaDoorW.PrintLast Go.Proofs.YtoofoicocfnfoaaDoorW.PrintMore
theorem evp {α : Type} {c : Prop} [Decidable c] {g h : Nat → Option α} {r : α} (hc : c) (k : Ev g r) : Ev (fun n => if c then g n else h n) r :=
  Ev.congr (fun n => if_pos hc) k
theorem evn {α : Type} {c : Prop} [Decidable c] {g h : Nat → Option α} {r : α} (hc : ¬ c) (k : Ev h r) : Ev (fun n => if c then g n else h n) r :=
  Ev.congr (fun n => if_neg hc) k
theorem evb {α β : Type} {g : Nat → Option α} {f : Nat → α → Option β} {a : α} {r : β} (h : Ev g a) (k : Ev (fun n => f n a) r) : Ev (fun n => (g n).bind (f n)) r := Ev.bind h k
theorem evr {α : Type} {a r : α} (h : a = r) : Ev (fun _ => some a) r := by subst h; exact Ev.now _
theorem evc {α : Type} {g : Nat → Option α} {r : α} {o : Option α} (hg : ∀ n, g n = o) (h : o = some r) : Ev g r := by
  subst h
  exact Ev.congr hg (Ev.now _)
/-- A loop that counts upwards to n. -/
theorem count_up (a n : Int) (P : Int → Prop) (hend : P n) (hround : ∀ i, a ≤ i → i < n → P (i + 1) → P i) : ∀ i, a ≤ i → i ≤ n → P i := by
  intro i h0 h1
  obtain ⟨d, hd⟩ : ∃ d : Nat, n - i = d := ⟨(n - i).toNat, by omega⟩
  induction d generalizing i with
  | zero =>
    obtain rfl : i = n := by omega
    exact hend
  | succ d ih => exact hround i h0 (by omega) (ih (i + 1) (by omega) (by omega) (by omega))
theorem w64 {x : Int} (h0 : -9223372036854775808 ≤ x) (h1 : x ≤ 9223372036854775807) : wrap64 x = x := by
  unfold wrap64
  omega
theorem w64_succ {i n : Int} (h0 : 0 ≤ i) (h : i < n) (hn : n ≤ 9223372036854775807) : wrap64 (i + 1) = i + 1 := w64 (by omega) (by omega)
theorem w64_pred {i n : Int} (h0 : 0 ≤ i) (h : i ≤ n) (hn : n ≤ 9223372036854775807) : wrap64 (i - 1) = i - 1 := w64 (by omega) (by omega)
theorem len_le {α : Type} {l : List α} (h : l.length ≤ maxLen) : (l.length : Int) ≤ 9223372036854775807 := by
  have : l.length ≤ 9223372036854775807 := by simpa [maxLen] using h
  omega
/-- A test that comes to true where P holds, and else to false. -/
def EvB (g : Nat → Option Bool) (P : Prop) : Prop := (P → Ev g true) ∧ (¬ P → Ev g false)
theorem EvB.map {g : Nat → Option Bool} {f : Nat → Bool → Option Bool} {P Q : Prop} (h : EvB g P) (ht : P → EvB (fun n => f n true) Q) (hf : ¬ P → EvB (fun n => f n false) Q) : EvB (fun n => (g n).bind (f n)) Q := by
  by_cases hp : P
  · exact ⟨fun q => Ev.bind (h.1 hp) ((ht hp).1 q), fun q => Ev.bind (h.1 hp) ((ht hp).2 q)⟩
  · exact ⟨fun q => Ev.bind (h.2 hp) ((hf hp).1 q), fun q => Ev.bind (h.2 hp) ((hf hp).2 q)⟩
end Go.Proofs.YtoofoicocfnfoaaDoor.PL
namespace Go.Proofs.YtoofoicocfnfoaaDoor.PL
open Go Go.RowKit Go.Proofs.YtoofoicocfnfoaaDoorW.PrintWords Go.Proofs.YtoofoicocfnfoaaDoorW.PrintLast Go.Proofs.YtoofoicocfnfoaaDoorW.PrintMore Go.Proofs.YtoofoicocfnfoaaDoor.Pr Go.Proofs.YtoofoicocfnfoaaDoor.TX Go.Proofs.YtoofoicocfnfoaaDoor.X
def ba (l : List UInt8) : ByteArray := ⟨l.toArray⟩
theorem ba_data (s : ByteArray) : ba s.data.toList = s := by obtain ⟨⟨l⟩⟩ := s; rfl
theorem ba_list (l : List UInt8) : (ba l).data.toList = l := rfl
theorem ba_toList (l : List UInt8) : (ba l).toList = l := by rw [Lib.toList_data]; rfl
theorem ba_size (l : List UInt8) : (ba l).size = l.length := rfl
theorem size_data (s : ByteArray) : s.data.toList.length = s.size := Array.length_toList
theorem ba_ex (s : ByteArray) (a b : Nat) : s.extract a b = ba ((s.data.toList.take b).drop a) := by
  rw [← ba_data (s.extract a b), Lib.extract_data, List.drop_take]
theorem ba_app (a b : List UInt8) : ba a ++ ba b = ba (a ++ b) := by
  rw [← ba_data (ba a ++ ba b)]
  congr 1
theorem byte_at (s : ByteArray) {i : Int} (h0 : 0 ≤ i) (h1 : i < (s.size : Int)) : ∃ b : UInt8, s.data.toList.drop i.toNat = b :: s.data.toList.drop (i + 1).toNat ∧
    s.data.toList.take (i + 1).toNat = s.data.toList.take i.toNat ++ [b] ∧ bt s i = (b.toNat : Int) := by
  have hl : i.toNat < s.data.toList.length := by rw [size_data]; omega
  refine ⟨s.data.toList[i.toNat], ?_, ?_, ?_⟩
  · rw [show (i + 1).toNat = i.toNat + 1 from by omega, ← List.drop_eq_getElem_cons hl]
  · rw [show (i + 1).toNat = i.toNat + 1 from by omega, List.take_add_one, List.getElem?_eq_getElem hl]; rfl
  · rw [← bt_at s i (by omega)]
    obtain ⟨⟨l⟩⟩ := s
    rfl
theorem take_end (s : ByteArray) : s.data.toList.take ((s.size : Int)).toNat = s.data.toList := by
  rw [show ((s.size : Int)).toNat = s.size from by omega, ← size_data, List.take_length]
theorem drop_end (s : ByteArray) : s.data.toList.drop ((s.size : Int)).toNat = [] := by
  rw [show ((s.size : Int)).toNat = s.size from by omega, ← size_data, List.drop_length]
def wrd (c : UInt8) : List UInt8 → List UInt8 → List (List UInt8)
  | p, [] => [p]
  | p, b :: r => if b = c then p :: wrd c [] r else wrd c (p ++ [b]) r
theorem wrd_cons (c b : UInt8) (p r : List UInt8) : wrd c p (b :: r) = if b = c then p :: wrd c [] r else wrd c (p ++ [b]) r := rfl
theorem wrd_eq (c : UInt8) : ∀ s p : List UInt8, wrd c p s = match parts c s with
    | [] => [p]
    | q :: t => (p ++ q) :: t
  | [], p => by simp [wrd, parts]
  | b :: r, p => by
    rw [wrd_cons, parts_cons]
    by_cases h : b = c
    · rw [if_pos h, if_pos h, wrd_eq c r []]
      cases hp : parts c r with
      | nil => exact absurd hp (parts_ne c r)
      | cons q t => simp
    · rw [if_neg h, if_neg h, wrd_eq c r (p ++ [b])]
      cases hp : parts c r with
      | nil => exact absurd hp (parts_ne c r)
      | cons q t => simp
theorem wrd_parts (c : UInt8) (s : List UInt8) : wrd c [] s = parts c s := by
  rw [wrd_eq]
  cases hp : parts c s with
  | nil => exact absurd hp (parts_ne c s)
  | cons q t => simp
theorem toNat_eq (b : UInt8) (n : Nat) (hn : n < 256) : ((b.toNat : Int) = (n : Int)) ↔ b = UInt8.ofNat n := by
  constructor
  · intro h
    refine UInt8.toNat_inj.1 ?_
    rw [UInt8.toNat_ofNat']; omega
  · rintro rfl
    rw [UInt8.toNat_ofNat']; omega
theorem words_ev (s : ByteArray) (hs : (s.size : Int) ≤ 4611686018427) : Ev (fun k => spileref16_Words.f k s) ((parts 32 s.data.toList).map ba) := by
  have key : ∀ i, 0 ≤ i → i ≤ (s.size : Int) → ∀ (out : List ByteArray) (fr : Int), 0 ≤ fr → fr ≤ i → (out.length : Int) ≤ i →
      Ev (fun k => spileref16_Words.l0 k s out fr i) (out ++ (wrd 32 ((s.data.toList.take i.toNat).drop fr.toNat) (s.data.toList.drop i.toNat)).map ba) := by
    refine count_up 0 (s.size : Int) _ ?_ ?_
    · intro out fr h0 h1 h2
      rw [drop_end]
      refine Ev.step (fun k => spileref16_Words.l0.eq_2 ..) (evp (by omega) (evp rfl (evp h0 (evp h1 (evp (by omega) (Ev.step (fun k => spileref16_Words.l0.eq_2 ..) (evn ?_ (evr ?_))))))))
      · rw [w64 (by omega) (by omega)]; omega
      · rw [ba_ex]; rfl
    · intro i h0 h1 ih out fr g0 g1 g2
      obtain ⟨b, e1, e2, e3⟩ := byte_at s h0 h1
      have hw : wrap64 (i + 1) = i + 1 := w64 (by omega) (by omega)
      have hlen : fr.toNat ≤ (s.data.toList.take i.toNat).length := by rw [List.length_take, size_data]; omega
      refine Ev.step (fun k => spileref16_Words.l0.eq_2 ..) (evp (by omega) (evn (by omega) (evp h0 (evp h1 ?_))))
      rw [e1, wrd_cons, hw, e3]
      by_cases c : b = 32
      · have q := ih (out ++ [s.extract fr.toNat i.toNat]) (i + 1) (by omega) (by omega) (by rw [List.length_append]; simp; omega)
        have z : (s.data.toList.take (i + 1).toNat).drop (i + 1).toNat = [] := List.drop_eq_nil_of_le (by rw [List.length_take]; omega)
        rw [z, List.append_assoc] at q
        rw [if_pos c]
        refine evp ((toNat_eq b 32 (by decide)).2 c) (evp g0 (evp g1 (evp (by omega) ?_)))
        rw [ba_ex] at q ⊢
        exact q
      · have q := ih out fr g0 (by omega) (by omega)
        rw [e2, List.drop_append_of_le_length hlen] at q
        rw [if_neg c]
        exact evn (fun h => c ((toNat_eq b 32 (by decide)).1 h)) q
  have := key 0 (by omega) (by omega) [] 0 (by omega) (by omega) (by simp)
  rw [show (0 : Int).toNat = 0 from rfl, List.take_zero, List.drop_zero, List.drop_zero, wrd_parts, List.nil_append] at this
  exact this
theorem split_ev (s : ByteArray) (hs : s.size < 4294967281) : strings_Split.f s ⟨#[32]⟩ = some ((parts 32 s.data.toList).map ba) := by
  unfold strings_Split.f
  rw [if_pos ⟨hs, rfl⟩]
  refine congrArg some ?_
  have e := Lib.splitB_data ⟨#[32]⟩ 0 (Lib.countB s ⟨#[32]⟩) s
  have e2 : Lib.splitK [32] 0 (Lib.countB s ⟨#[32]⟩) s.data.toList = parts 32 s.data.toList := split_eq 32 s.data.toList
  have e3 : (Lib.splitB ⟨#[32]⟩ 0 (Lib.countB s ⟨#[32]⟩) s).map (·.data.toList) = parts 32 s.data.toList := e.trans e2
  rw [← e3, List.map_map]
  refine (List.map_congr_left (fun x _ => ba_data x) |>.trans (List.map_id _)).symm
def lin : List UInt8 → List UInt8 → List (List UInt8) × Bool
  | p, [] => if p = [] then ([], true) else ([p], false)
  | p, b :: r => if b = 10 then (p :: (lin [] r).1, (lin [] r).2) else lin (p ++ [b]) r
theorem lin_cons (p : List UInt8) (b : UInt8) (r : List UInt8) : lin p (b :: r) = if b = 10 then (p :: (lin [] r).1, (lin [] r).2) else lin (p ++ [b]) r := rfl
theorem lin_cut : ∀ (s p : List UInt8), lin p s = if (cut1 10 s).2.2 = true then ((p ++ (cut1 10 s).1) :: (lin [] (cut1 10 s).2.1).1, (lin [] (cut1 10 s).2.1).2) else if p ++ s = [] then ([], true) else ([p ++ s], false)
  | [], p => by simp [lin, cut1]
  | b :: r, p => by
    rw [lin_cons, cut1_cons]
    by_cases h : b = 10
    · rw [if_pos h, if_pos h]; simp
    · rw [if_neg h, if_neg h, lin_cut r (p ++ [b])]
      simp
theorem lines_ev (s : ByteArray) (hs : (s.size : Int) ≤ 4611686018427) : Ev (fun k => spileref16_Lines.f k s) ((lin [] s.data.toList).1.map ba, (lin [] s.data.toList).2) := by
  have key : ∀ i, 0 ≤ i → i ≤ (s.size : Int) → ∀ (out : List ByteArray) (fr : Int), 0 ≤ fr → fr ≤ i → (out.length : Int) ≤ i →
      Ev (fun k => spileref16_Lines.l0 k s out fr i) (out ++ (lin ((s.data.toList.take i.toNat).drop fr.toNat) (s.data.toList.drop i.toNat)).1.map ba, (lin ((s.data.toList.take i.toNat).drop fr.toNat) (s.data.toList.drop i.toNat)).2) := by
    refine count_up 0 (s.size : Int) _ ?_ ?_
    · intro out fr h0 h1 h2
      rw [drop_end, take_end]
      refine Ev.step (fun k => spileref16_Lines.l0.eq_2 ..) (evn (by omega) ?_)
      unfold lin
      by_cases c : fr < (s.size : Int)
      · have hne : ¬ s.data.toList.drop fr.toNat = [] := fun e => by
          have := congrArg List.length e
          rw [List.length_drop, size_data] at this
          simp at this; omega
        rw [if_neg hne]
        refine evp c (evp h0 (evp h1 (evp (by omega) (evr ?_))))
        have ex : s.extract fr.toNat s.size = ba (s.data.toList.drop fr.toNat) := by
          rw [ba_ex, ← size_data, List.take_length]
        rw [ex]
        rfl
      · have he : s.data.toList.drop fr.toNat = [] := List.drop_eq_nil_of_le (by rw [size_data]; omega)
        rw [if_pos he]
        exact evn c (evr (by simp))
    · intro i h0 h1 ih out fr g0 g1 g2
      obtain ⟨b, e1, e2, e3⟩ := byte_at s h0 h1
      have hw : wrap64 (i + 1) = i + 1 := w64 (by omega) (by omega)
      have hlen : fr.toNat ≤ (s.data.toList.take i.toNat).length := by rw [List.length_take, size_data]; omega
      refine Ev.step (fun k => spileref16_Lines.l0.eq_2 ..) (evp h1 (evp h0 ?_))
      rw [e1, lin_cons, hw, e3]
      by_cases c : b = 10
      · have q := ih (out ++ [s.extract fr.toNat i.toNat]) (i + 1) (by omega) (by omega) (by rw [List.length_append]; simp; omega)
        have z : (s.data.toList.take (i + 1).toNat).drop (i + 1).toNat = [] := List.drop_eq_nil_of_le (by rw [List.length_take]; omega)
        rw [z, List.append_assoc] at q
        rw [if_pos c]
        refine evp ((toNat_eq b 10 (by decide)).2 c) (evp g0 (evp g1 (evp (by omega) (evp (by omega) ?_))))
        rw [ba_ex] at q ⊢
        exact q
      · have q := ih out fr g0 (by omega) (by omega)
        rw [e2, List.drop_append_of_le_length hlen] at q
        rw [if_neg c]
        exact evn (fun h => c ((toNat_eq b 10 (by decide)).1 h)) q
  have := key 0 (by omega) (by omega) [] 0 (by omega) (by omega) (by simp)
  rw [show (0 : Int).toNat = 0 from rfl, List.take_zero, List.drop_zero, List.drop_zero, List.nil_append] at this
  exact this
theorem number_loop (s : ByteArray) (hs : (s.size : Int) ≤ 18) : ∀ i, 0 ≤ i → i ≤ (s.size : Int) → ∀ n : Nat, n + 1 ≤ 10 ^ i.toNat →
    Ev (fun k => spileref16_Number.l0 k s (n : Int) i) (if (s.data.toList.drop i.toNat).all isDig = true then (((valFrom n (s.data.toList.drop i.toNat) : Nat) : Int), true) else (0, false)) := by
  refine count_up 0 (s.size : Int) _ ?_ ?_
  · intro n hn
    rw [drop_end]
    exact Ev.step (fun k => spileref16_Number.l0.eq_2 ..) (evn (by omega) (evr (by rw [if_pos (show ([] : List UInt8).all isDig = true from rfl)]; rfl)))
  · intro i h0 h1 ih n hn
    obtain ⟨b, e1, _, e3⟩ := byte_at s h0 h1
    have hw : wrap64 (i + 1) = i + 1 := w64 (by omega) (by omega)
    refine Ev.step (fun k => spileref16_Number.l0.eq_2 ..) (evp h1 (evp h0 ?_))
    rw [e3, e1, hw]
    have hp : 10 ^ i.toNat ≤ 10 ^ 17 := Nat.pow_le_pow_right (by decide) (by omega)
    by_cases c1 : (b.toNat : Int) < 48
    · have hd : ¬ isDig b = true := fun h => by have := (isDig_iff b).1 h; omega
      rw [if_neg (by simp [hd])]
      exact evp c1 (Ev.now _)
    · by_cases c2 : (b.toNat : Int) > 57
      · have hd : ¬ isDig b = true := fun h => by have := (isDig_iff b).1 h; omega
        rw [if_neg (by simp [hd])]
        exact evn c1 (evp c2 (Ev.now _))
      · have hd : isDig b = true := (isDig_iff b).2 (by omega)
        have e : wrap64 ((wrap64 (10 * (n : Int))) + (((b.toNat : Int) - 48) % 256)) = ((10 * n + (b.toNat - 48) : Nat) : Int) := by
          rw [w64 (x := 10 * (n : Int)) (by omega) (by omega), w64 (by omega) (by omega)]; omega
        rw [e]
        have q := ih (10 * n + (b.toNat - 48)) (by
          rw [show (i + 1).toNat = i.toNat + 1 from by omega, Nat.pow_succ]; omega)
        have ea : ((b :: s.data.toList.drop (i + 1).toNat).all isDig = true) = ((s.data.toList.drop (i + 1).toNat).all isDig = true) := by
          rw [List.all_cons, hd, Bool.true_and]
        simp only [ea]
        exact evn c1 (evn c2 q)
def numR (most : Nat) (l : List UInt8) : Int × Bool := match numP most l with
  | some v => ((v : Int), true)
  | none => (0, false)
theorem number_ev (s : ByteArray) (most : Nat) (hm : most ≤ 18) : Ev (fun k => spileref16_Number.f k s (most : Int)) (numR most s.data.toList) := by
  have hsz := size_data s
  have bad : ¬ (Canon s.data.toList ∧ s.data.toList.length ≤ most) → numR most s.data.toList = (0, false) := fun h => by
    unfold numR numP; rw [if_neg h]
  by_cases c1 : (s.size : Int) < 1
  · rw [bad (fun h => by have := h.1.1; omega)]
    exact evp c1 (Ev.step (fun k => spileref16_Number.j0.eq_2 ..) (evp rfl (Ev.now _)))
  by_cases c2 : (s.size : Int) > (most : Int)
  · rw [bad (fun h => by have := h.2; omega)]
    exact evn c1 (evp c2 (Ev.step (fun k => spileref16_Number.j0.eq_2 ..) (evp rfl (Ev.now _))))
  have go : ¬ (1 < s.data.toList.length ∧ s.data.toList.head? = some 48) → Ev (fun k => spileref16_Number.j0 k s false) (numR most s.data.toList) := by
    intro hh
    have q := number_loop s (by omega) 0 (by omega) (by omega) 0 (by decide)
    rw [show (0 : Int).toNat = 0 from rfl, List.drop_zero] at q
    refine Ev.step (fun k => spileref16_Number.j0.eq_2 ..) (evn (by simp) ?_)
    by_cases hd : s.data.toList.all isDig = true
    · have hc : Canon s.data.toList ∧ s.data.toList.length ≤ most := ⟨⟨by omega, hh, hd⟩, by omega⟩
      rw [if_pos hd] at q
      have e : numR most s.data.toList = (((valFrom 0 s.data.toList : Nat) : Int), true) := by unfold numR numP; rw [if_pos hc]
      rw [e]
      exact q
    · rw [if_neg hd] at q
      rw [bad (fun h => hd h.1.2.2)]
      exact q
  by_cases c3 : (s.size : Int) > 1
  · obtain ⟨b, e1, _, e3⟩ := byte_at s (i := 0) (by omega) (by omega)
    rw [show (0 : Int).toNat = 0 from rfl, List.drop_zero] at e1
    refine evn c1 (evn c2 (evp c3 (evp (by omega) ?_)))
    rw [e3]
    by_cases c4 : b = 48
    · have e4 : ((b.toNat : Int) == 48) = true := by rw [beq_iff_eq]; exact (toNat_eq b 48 (by decide)).2 c4
      rw [e4, bad (fun h => h.1.2.1 ⟨by omega, by rw [e1]; simp [c4]⟩)]
      exact Ev.step (fun k => spileref16_Number.j0.eq_2 ..) (evp rfl (Ev.now _))
    · have e4 : ((b.toNat : Int) == 48) = false := by rw [beq_eq_false_iff_ne]; exact fun h => c4 ((toNat_eq b 48 (by decide)).1 h)
      rw [e4]
      exact go (fun h => c4 (by have := h.2; rw [e1] at this; simpa using this))
  · exact evn c1 (evn c2 (evn c3 (go (fun h => by omega))))
theorem dec_digit : ∀ d : Fin 10, (⟨#[48, 49, 50, 51, 52, 53, 54, 55, 56, 57]⟩ : ByteArray).extract d.val (d.val + 1) = ba [UInt8.ofNat (48 + d.val)] := by decide
theorem dec_digit' {d : Int} (h0 : 0 ≤ d) (h1 : d < 10) : (⟨#[48, 49, 50, 51, 52, 53, 54, 55, 56, 57]⟩ : ByteArray).extract d.toNat (wrap64 (d + 1)).toNat = ba [UInt8.ofNat (48 + d.toNat)] := by
  rw [w64 (by omega) (by omega), show (d + 1).toNat = d.toNat + 1 from by omega]
  exact dec_digit ⟨d.toNat, by omega⟩
theorem decimal_ev : ∀ (m : Nat) (n : Int), 0 ≤ n → n ≤ 9223372036854775807 → n.toNat ≤ m → Ev (fun k => spileref16_Decimal.f k n) (ba (Lib.itoa n)) := by
  have it : ∀ n : Int, 0 ≤ n → Lib.itoa n = Lib.decDigits n.toNat := fun n h => by unfold Lib.itoa; rw [if_neg (by omega)]
  intro m
  induction m with
  | zero =>
    intro n h0 h1 hm
    obtain rfl : n = 0 := by omega
    refine Ev.step (fun k => spileref16_Decimal.f.eq_2 ..) (evp (by omega) (evp (by omega) (evp (by rw [w64 (by omega) (by omega)]; omega) (evp (by rw [w64 (by omega) (by omega)]; omega) (evr ?_)))))
    rw [dec_digit' (d := 0) (by omega) (by omega), it 0 (by omega), digits_small (by decide)]
  | succ m ih =>
    intro n h0 h1 hm
    by_cases c : n < 10
    · refine Ev.step (fun k => spileref16_Decimal.f.eq_2 ..) (evp c (evp h0 (evp (by rw [w64 (by omega) (by omega)]; omega) (evp (by rw [w64 (by omega) (by omega)]; omega) (evr ?_)))))
      rw [dec_digit' h0 c, it n h0, digits_small (by omega)]
    · have e1 : Int.tdiv n 10 = n / 10 := Int.tdiv_eq_ediv_of_nonneg h0
      have e2 : Int.tmod n 10 = n % 10 := Int.tmod_eq_emod_of_nonneg h0
      have q := ih (n / 10) (by omega) (by omega) (by omega)
      have g0 : 0 ≤ n % 10 := by omega
      have g1 : n % 10 < 10 := by omega
      refine Ev.step (fun k => spileref16_Decimal.f.eq_2 ..) (evn c ?_)
      rw [e1, e2, w64 (x := n / 10) (by omega) (by omega)]
      refine evb q (evp g0 (evp (by rw [w64 (by omega) (by omega)]; omega) (evp (by rw [w64 (by omega) (by omega)]; omega) ?_)))
      rw [dec_digit' g0 g1, ba_app]
      have hl : (Lib.itoa (n / 10)).length ≤ 19 := by
        rw [it _ (by omega)]
        exact digits_length_le (by omega) (by decide)
      refine evp (by rw [ba_size, ba_size]; simp; omega) (evr ?_)
      rw [it _ (by omega), it n h0, digits_big (u := n.toNat) (by omega)]
      rw [show (n / 10).toNat = n.toNat / 10 from by omega, show (n % 10).toNat = n.toNat % 10 from by omega]
theorem atoi_cases (s : ByteArray) (hs : s.size ≤ 281474976710656) : ∃ n e, strconv_Atoi.f s = some (n, e) ∧ (e = none ↔ Lib.atoiAll s.data.toList = .ok n) ∧ (-9223372036854775808 ≤ n ∧ n ≤ 9223372036854775807) := by
  unfold strconv_Atoi.f
  rw [if_pos hs]
  cases ha : Lib.atoiAll s.data.toList with
  | ok v =>
    refine ⟨v, none, rfl, by simp, ?_⟩
    unfold Lib.atoiAll at ha
    cases hl : s.data.toList with
    | nil => rw [hl] at ha; cases ha
    | cons c r =>
      rw [hl] at ha
      simp only [] at ha
      cases hm : Lib.parseMag (if c.toNat = 43 ∨ c.toNat = 45 then r else c :: r) with
      | range => rw [hm] at ha; cases ha
      | ok u =>
        rw [hm] at ha
        simp only [] at ha
        by_cases c1 : ¬ c.toNat = 45 ∧ 9223372036854775808 ≤ u
        · rw [if_pos c1] at ha; cases ha
        · rw [if_neg c1] at ha
          by_cases c2 : c.toNat = 45 ∧ 9223372036854775808 < u
          · rw [if_pos c2] at ha; cases ha
          · rw [if_neg c2] at ha
            injection ha with ha
            by_cases c3 : c.toNat = 45
            · rw [if_pos c3] at ha; omega
            · rw [if_neg c3] at ha; omega
      | _ => rw [hm] at ha; cases ha
  | range =>
    refine ⟨_, some 0, rfl, by simp, ?_⟩
    unfold Lib.atoiSat
    split <;> omega
  | _ => exact ⟨0, some 0, rfl, by simp, by omega⟩
theorem itoa_f {n : Int} (h0 : -9223372036854775808 ≤ n) (h1 : n ≤ 9223372036854775807) : strconv_Itoa.f n = some (ba (Lib.itoa n)) := by
  unfold strconv_Itoa.f
  rw [if_pos h0, if_pos h1]
  rfl
end Go.Proofs.YtoofoicocfnfoaaDoor.PL
namespace Go.Proofs.YtoofoicocfnfoaaDoor.PL
open Go Go.RowKit Go.Proofs.YtoofoicocfnfoaaDoorW.PrintWords Go.Proofs.YtoofoicocfnfoaaDoorW.PrintLast Go.Proofs.YtoofoicocfnfoaaDoorW.PrintMore Go.Proofs.YtoofoicocfnfoaaDoor.Pr Go.Proofs.YtoofoicocfnfoaaDoor.TX Go.Proofs.YtoofoicocfnfoaaDoor.X
theorem lin_len : ∀ (t p : List UInt8), (lin p t).1.length ≤ t.length + 1
  | [], p => by unfold lin; split <;> simp
  | b :: r, p => by
    rw [lin_cons]
    by_cases c : b = 10
    · rw [if_pos c]; have := lin_len r []; simp; omega
    · rw [if_neg c]; have := lin_len r (p ++ [b]); simp; omega
theorem lin_nil {s : List UInt8} {e : Bool} (h : lin [] s = ([], e)) : s = [] ∧ e = true := by
  rw [lin_cut] at h
  by_cases c : (cut1 10 s).2.2 = true
  · rw [if_pos c] at h; simp at h
  · rw [if_neg c] at h
    by_cases c2 : ([] : List UInt8) ++ s = []
    · rw [if_pos c2] at h
      exact ⟨by simpa using c2, (congrArg Prod.snd h).symm⟩
    · rw [if_neg c2] at h; simp at h
theorem lin_next {s l : List UInt8} {r : List (List UInt8)} {e : Bool} (h : lin [] s = (l :: r, e)) :
    (cut1 10 s).1 = l ∧ (((cut1 10 s).2.2 = true ∧ lin [] (cut1 10 s).2.1 = (r, e)) ∨ ((cut1 10 s).2.2 = false ∧ (cut1 10 s).2.1 = [] ∧ r = [] ∧ e = false)) ∧ s ≠ [] ∧ l.length ≤ s.length := by
  have hne : s ≠ [] := fun e2 => by rw [e2] at h; simp [lin] at h
  rw [lin_cut] at h
  by_cases c : (cut1 10 s).2.2 = true
  · rw [if_pos c] at h
    simp only [List.nil_append, Prod.mk.injEq, List.cons.injEq] at h
    refine ⟨h.1.1, .inl ⟨c, Prod.ext h.1.2 h.2⟩, hne, ?_⟩
    have := congrArg List.length (cut1_sum 10 s c)
    rw [List.length_append, h.1.1] at this
    omega
  · rw [if_neg c, if_neg (by simpa using hne)] at h
    simp only [List.nil_append, Prod.mk.injEq, List.cons.injEq] at h
    have := cut1_no 10 s (Bool.eq_false_iff.2 c)
    exact ⟨by rw [this.1]; exact h.1.1, .inr ⟨Bool.eq_false_iff.2 c, this.2, h.1.2.symm, h.2.symm⟩, hne, by rw [h.1.1]; exact Nat.le_refl _⟩
section
variable {α : Type}
/-- Line by line: the first line that has no such thing, or no line feed, stops it. -/
def run (lineL : List UInt8 → Option α) (e : Bool) : List (List UInt8) → List α → List α × Option Nat
  | [], out => (out, none)
  | l :: r, out => match lineL l with
    | none => ([], some out.length)
    | some x => if r = [] ∧ e = false then ([], some out.length) else run lineL e r (out ++ [x])
theorem run_cons (lineL : List UInt8 → Option α) (e : Bool) (l : List UInt8) (r : List (List UInt8)) (out : List α) : run lineL e (l :: r) out = match lineL l with
    | none => ([], some out.length)
    | some x => if r = [] ∧ e = false then ([], some out.length) else run lineL e r (out ++ [x]) := rfl
def printL (lineT : α → List UInt8) : List α → List UInt8
  | [] => []
  | x :: r => lineT x ++ 10 :: printL lineT r
theorem lin_print {lineT : α → List UInt8} : ∀ l : List α, (∀ x, x ∈ l → (10 : UInt8) ∉ lineT x) → lin [] (printL lineT l) = (l.map lineT, true)
  | [], _ => rfl
  | x :: r, h => by
    have hx := h x (by simp)
    rw [lin_cut]
    rw [show printL lineT (x :: r) = lineT x ++ 10 :: printL lineT r from rfl, cut1_first 10 _ _ hx]
    simp only [if_true, List.nil_append]
    rw [lin_print r (fun z hz => h z (by simp [hz]))]
    rfl
theorem run_print {lineL : List UInt8 → Option α} {lineT : α → List UInt8} : ∀ (l out : List α), (∀ x, x ∈ l → lineL (lineT x) = some x) → run lineL true (l.map lineT) out = (out ++ l, none)
  | [], out, _ => by simp [run]
  | x :: r, out, h => by
    rw [List.map_cons, run_cons, h x (by simp)]
    simp only []
    rw [if_neg (by simp), run_print r (out ++ [x]) (fun z hz => h z (by simp [hz]))]
    simp
theorem run_again {lineL : List UInt8 → Option α} {lineT : α → List UInt8} (hb : ∀ l x, lineL l = some x → lineT x = l) (e : Bool) : ∀ (ls : List (List UInt8)) (s : List UInt8) (out o : List α), lin [] s = (ls, e) → run lineL e ls out = (o, none) → ∃ xs, o = out ++ xs ∧ printL lineT xs = s
  | [], s, out, o, h, hr => by
    obtain ⟨rfl, _⟩ := lin_nil h
    have := congrArg Prod.fst hr
    exact ⟨[], by simp [run] at this ⊢; exact this.symm, rfl⟩
  | l :: r, s, out, o, h, hr => by
    obtain ⟨e1, e2, _⟩ := lin_next h
    rw [run_cons] at hr
    cases hx : lineL l with
    | none => rw [hx] at hr; simp at hr
    | some x =>
      rw [hx] at hr
      simp only [] at hr
      by_cases c : r = [] ∧ e = false
      · rw [if_pos c] at hr; simp at hr
      · rw [if_neg c] at hr
        rcases e2 with ⟨cf, hrest⟩ | ⟨_, _, h1, h2⟩
        · obtain ⟨xs, g1, g2⟩ := run_again hb e r _ (out ++ [x]) o hrest hr
          refine ⟨x :: xs, by rw [g1]; simp, ?_⟩
          show lineT x ++ 10 :: printL lineT xs = s
          rw [g2, hb l x hx, ← e1]
          exact (cut1_sum 10 s cf).symm
        · exact absurd ⟨h1, h2⟩ c
theorem printL_len {lineT : α → List UInt8} {m : Nat} : ∀ l : List α, (∀ x, x ∈ l → (lineT x).length ≤ m) → (printL lineT l).length ≤ (m + 1) * l.length
  | [], _ => by simp [printL]
  | x :: r, h => by
    have a := h x (by simp)
    have b := printL_len r (fun z hz => h z (by simp [hz]))
    simp only [printL, List.length_append, List.length_cons]
    rw [Nat.mul_add, Nat.mul_one]; omega
end
theorem itoa_dig {n : Int} (h0 : 0 ≤ n) : Lib.itoa n = Lib.decDigits n.toNat := by unfold Lib.itoa; rw [if_neg (by omega)]
theorem itoa_le {n : Int} {m : Nat} (h0 : 0 ≤ n) (h1 : n < 10 ^ m) (hm : 1 ≤ m) : (Lib.itoa n).length ≤ m := by
  rw [itoa_dig h0]
  refine digits_length_le ?_ hm
  have : ((n.toNat : Nat) : Int) < ((10 ^ m : Nat) : Int) := by rw [Int.natCast_pow]; show ((n.toNat : Nat) : Int) < 10 ^ m; omega
  exact Int.ofNat_lt.1 this
theorem itoa_numP {n : Int} {m : Nat} (h0 : 0 ≤ n) (h1 : n < 10 ^ m) (hm : 1 ≤ m) : numP m (Lib.itoa n) = some n.toNat := by
  have := itoa_le h0 h1 hm
  rw [itoa_dig h0] at this ⊢
  exact numP_digits this
theorem itoa_no {n : Int} (h0 : 0 ≤ n) {c : UInt8} (hc : isDig c = false) : c ∉ Lib.itoa n := by
  rw [itoa_dig h0]
  exact digit_not (digits_all _) hc
theorem numP_itoa {m v : Nat} {s : List UInt8} (h : numP m s = some v) : Lib.itoa (v : Int) = s := by
  rw [itoa_dig (by omega), Int.toNat_natCast]; exact (numP_text h).1
theorem dec_ev {n : Int} (h0 : 0 ≤ n) (h1 : n ≤ 9223372036854775807) : Ev (fun k => spileref16_Decimal.f k n) (ba (Lib.itoa n)) := decimal_ev n.toNat n h0 h1 (by omega)
end Go.Proofs.YtoofoicocfnfoaaDoor.PL
namespace Go.Proofs.YtoofoicocfnfoaaDoor.PL
open Go Go.RowKit Go.Proofs.YtoofoicocfnfoaaDoorW.PrintWords Go.Proofs.YtoofoicocfnfoaaDoorW.PrintLast Go.Proofs.YtoofoicocfnfoaaDoorW.PrintMore Go.Proofs.YtoofoicocfnfoaaDoor.Pr Go.Proofs.YtoofoicocfnfoaaDoor.Opn
/-- A row's fault. -/
def flt (l : List S30) (i : Int) : Int :=
  if (rd_T30 l i).f0 < 0 ∨ (rd_T30 l i).f0 > 10000 ∨ (rd_T30 l i).f1 < 50000 ∨ (rd_T30 l i).f1 > 120000 then 2
  else if i > 0 ∧ (rd_T30 l i).f0 ≤ (rd_T30 l (i - 1)).f0 then 5
  else if i > 0 ∧ (rd_T30 l i).f1 > (rd_T30 l (i - 1)).f1 then 18 else 0
theorem flt_cases (l : List S30) (i : Int) : (((rd_T30 l i).f0 < 0 ∨ (rd_T30 l i).f0 > 10000 ∨ (rd_T30 l i).f1 < 50000 ∨ (rd_T30 l i).f1 > 120000) ∧ flt l i = 2) ∨
    ((0 ≤ (rd_T30 l i).f0 ∧ (rd_T30 l i).f0 ≤ 10000 ∧ 50000 ≤ (rd_T30 l i).f1 ∧ (rd_T30 l i).f1 ≤ 120000) ∧
      ((i > 0 ∧ (rd_T30 l i).f0 ≤ (rd_T30 l (i - 1)).f0 ∧ flt l i = 5) ∨ (i > 0 ∧ (rd_T30 l (i - 1)).f0 < (rd_T30 l i).f0 ∧ (rd_T30 l i).f1 > (rd_T30 l (i - 1)).f1 ∧ flt l i = 18) ∨
       (flt l i = 0 ∧ (i > 0 → (rd_T30 l (i - 1)).f0 < (rd_T30 l i).f0 ∧ (rd_T30 l i).f1 ≤ (rd_T30 l (i - 1)).f1)))) := by
  unfold flt
  split
  · exact .inl ⟨by assumption, rfl⟩
  · split
    · exact .inr ⟨by omega, .inl ⟨by omega, by omega, rfl⟩⟩
    · split
      · exact .inr ⟨by omega, .inr (.inl ⟨by omega, by omega, by omega, rfl⟩)⟩
      · exact .inr ⟨by omega, .inr (.inr ⟨rfl, by omega⟩)⟩
theorem fault_ev (l : List S30) (hl : (l.length : Int) ≤ 9223372036854775807) (i : Int) (h0 : 0 ≤ i) (h1 : i < (l.length : Int)) : Ev (fun k => density_fault.f k l i) (flt l i) := by
  have hp := w64_pred h0 (Int.le_of_lt h1) hl
  unfold density_fault.f
  rcases flt_cases l i with ⟨a, e⟩ | ⟨a, ⟨b, c, e⟩ | ⟨b, c, d, e⟩ | ⟨e, b⟩⟩ <;> rw [e]
  · by_cases c1 : (rd_T30 l i).f0 < 0
    · (repeat' first | assumption | exact Ev.now _ | exact evr rfl | refine evp (by first | omega | exact rfl | assumption | decide | (simp only [decide_eq_true_eq]; omega) | (simp; done) | (simp; omega)) ?_ | refine evn (by first | omega | assumption | decide | (simp only [decide_eq_true_eq]; omega) | (simp; done) | (simp; omega)) ?_ | refine Ev.step (fun k => density_fault.j0.eq_2 ..) ?_)
    · by_cases c2 : (rd_T30 l i).f0 > 10000
      · (repeat' first | assumption | exact Ev.now _ | exact evr rfl | refine evp (by first | omega | exact rfl | assumption | decide | (simp only [decide_eq_true_eq]; omega) | (simp; done) | (simp; omega)) ?_ | refine evn (by first | omega | assumption | decide | (simp only [decide_eq_true_eq]; omega) | (simp; done) | (simp; omega)) ?_ | refine Ev.step (fun k => density_fault.j0.eq_2 ..) ?_)
      · by_cases c3 : (rd_T30 l i).f1 < 50000
        · (repeat' first | assumption | exact Ev.now _ | exact evr rfl | refine evp (by first | omega | exact rfl | assumption | decide | (simp only [decide_eq_true_eq]; omega) | (simp; done) | (simp; omega)) ?_ | refine evn (by first | omega | assumption | decide | (simp only [decide_eq_true_eq]; omega) | (simp; done) | (simp; omega)) ?_ | refine Ev.step (fun k => density_fault.j0.eq_2 ..) ?_)
        · (repeat' first | assumption | exact Ev.now _ | exact evr rfl | refine evp (by first | omega | exact rfl | assumption | decide | (simp only [decide_eq_true_eq]; omega) | (simp; done) | (simp; omega)) ?_ | refine evn (by first | omega | assumption | decide | (simp only [decide_eq_true_eq]; omega) | (simp; done) | (simp; omega)) ?_ | refine Ev.step (fun k => density_fault.j0.eq_2 ..) ?_)
  · refine evp h0 (evp h1 (evn (by omega) (evn (by omega) (evn (by omega) (Ev.step (fun k => density_fault.j0.eq_2 ..) ?_)))))
    rw [hp]
    (repeat' first | assumption | exact Ev.now _ | exact evr rfl | refine evp (by first | omega | exact rfl | assumption | decide | (simp only [decide_eq_true_eq]; omega) | (simp; done) | (simp; omega)) ?_ | refine evn (by first | omega | assumption | decide | (simp only [decide_eq_true_eq]; omega) | (simp; done) | (simp; omega)) ?_ | refine Ev.step (fun k => density_fault.j1.eq_2 ..) ?_)
  · refine evp h0 (evp h1 (evn (by omega) (evn (by omega) (evn (by omega) (Ev.step (fun k => density_fault.j0.eq_2 ..) ?_)))))
    rw [hp]
    refine evn (by simp; omega) (evp b (evp (by omega) (evp (by omega) (Ev.step (fun k => density_fault.j1.eq_2 ..) ?_))))
    rw [hp]
    (repeat' first | assumption | exact Ev.now _ | exact evr rfl | refine evp (by first | omega | exact rfl | assumption | decide | (simp only [decide_eq_true_eq]; omega) | (simp; done) | (simp; omega)) ?_ | refine evn (by first | omega | assumption | decide | (simp only [decide_eq_true_eq]; omega) | (simp; done) | (simp; omega)) ?_ | refine Ev.step (fun k => density_fault.j1.eq_2 ..) ?_)
  · refine evp h0 (evp h1 (evn (by omega) (evn (by omega) (evn (by omega) (Ev.step (fun k => density_fault.j0.eq_2 ..) ?_)))))
    rw [hp]
    by_cases c : i > 0
    · obtain ⟨b1, b2⟩ := b c
      refine evn (by simp; omega) (evp c (evp (by omega) (evp (by omega) (Ev.step (fun k => density_fault.j1.eq_2 ..) ?_))))
      rw [hp]
      (repeat' first | assumption | exact Ev.now _ | exact evr rfl | refine evp (by first | omega | exact rfl | assumption | decide | (simp only [decide_eq_true_eq]; omega) | (simp; done) | (simp; omega)) ?_ | refine evn (by first | omega | assumption | decide | (simp only [decide_eq_true_eq]; omega) | (simp; done) | (simp; omega)) ?_ | refine Ev.step (fun k => density_fault.j1.eq_2 ..) ?_)
    · (repeat' first | assumption | exact Ev.now _ | exact evr rfl | refine evp (by first | omega | exact rfl | assumption | decide | (simp only [decide_eq_true_eq]; omega) | (simp; done) | (simp; omega)) ?_ | refine evn (by first | omega | assumption | decide | (simp only [decide_eq_true_eq]; omega) | (simp; done) | (simp; omega)) ?_ | refine Ev.step (fun k => density_fault.j1.eq_2 ..) ?_)
theorem ref_one (l : List S30) (hl : (l.length : Int) ≤ 9223372036854775807) (i : Int) (h0 : 0 ≤ i) (h1 : i < (l.length : Int)) :
    (flt l i ≠ 0 → Ev (fun k => spileref16_Check.l0 k l i) (i, flt l i)) ∧ (flt l i = 0 → ∀ r, Ev (fun k => spileref16_Check.l0 k l (i + 1)) r → Ev (fun k => spileref16_Check.l0 k l i) r) := by
  have hp := w64_pred h0 (Int.le_of_lt h1) hl
  have hs := w64_succ h0 h1 hl
  rcases flt_cases l i with ⟨a, e⟩ | ⟨a, ⟨b, c, e⟩ | ⟨b, c, d, e⟩ | ⟨e, b⟩⟩ <;> rw [e]
  · refine ⟨fun _ => ?_, fun h => absurd h (by decide)⟩
    by_cases c1 : (rd_T30 l i).f0 < 0
    · refine Ev.step (fun k => spileref16_Check.l0.eq_2 ..) ?_
      (repeat' first | assumption | exact Ev.now _ | exact evr rfl | refine evp (by first | omega | exact rfl | assumption | decide | (simp only [decide_eq_true_eq]; omega) | (simp; done) | (simp; omega)) ?_ | refine evn (by first | omega | assumption | decide | (simp only [decide_eq_true_eq]; omega) | (simp; done) | (simp; omega)) ?_ | refine Ev.step (fun k => spileref16_Check.j1.eq_2 ..) ?_)
    · by_cases c2 : (rd_T30 l i).f0 > 10000
      · refine Ev.step (fun k => spileref16_Check.l0.eq_2 ..) ?_
        (repeat' first | assumption | exact Ev.now _ | exact evr rfl | refine evp (by first | omega | exact rfl | assumption | decide | (simp only [decide_eq_true_eq]; omega) | (simp; done) | (simp; omega)) ?_ | refine evn (by first | omega | assumption | decide | (simp only [decide_eq_true_eq]; omega) | (simp; done) | (simp; omega)) ?_ | refine Ev.step (fun k => spileref16_Check.j1.eq_2 ..) ?_)
      · by_cases c3 : (rd_T30 l i).f1 < 50000
        · refine Ev.step (fun k => spileref16_Check.l0.eq_2 ..) ?_
          (repeat' first | assumption | exact Ev.now _ | exact evr rfl | refine evp (by first | omega | exact rfl | assumption | decide | (simp only [decide_eq_true_eq]; omega) | (simp; done) | (simp; omega)) ?_ | refine evn (by first | omega | assumption | decide | (simp only [decide_eq_true_eq]; omega) | (simp; done) | (simp; omega)) ?_ | refine Ev.step (fun k => spileref16_Check.j1.eq_2 ..) ?_)
        · refine Ev.step (fun k => spileref16_Check.l0.eq_2 ..) ?_
          (repeat' first | assumption | exact Ev.now _ | exact evr rfl | refine evp (by first | omega | exact rfl | assumption | decide | (simp only [decide_eq_true_eq]; omega) | (simp; done) | (simp; omega)) ?_ | refine evn (by first | omega | assumption | decide | (simp only [decide_eq_true_eq]; omega) | (simp; done) | (simp; omega)) ?_ | refine Ev.step (fun k => spileref16_Check.j1.eq_2 ..) ?_)
  · refine ⟨fun _ => ?_, fun h => absurd h (by decide)⟩
    refine Ev.step (fun k => spileref16_Check.l0.eq_2 ..) (evp h1 (evp h0 (evn (by omega) (evn (by omega) (evn (by omega) (Ev.step (fun k => spileref16_Check.j1.eq_2 ..) ?_))))))
    rw [hp]
    (repeat' first | assumption | exact Ev.now _ | exact evr rfl | refine evp (by first | omega | exact rfl | assumption | decide | (simp only [decide_eq_true_eq]; omega) | (simp; done) | (simp; omega)) ?_ | refine evn (by first | omega | assumption | decide | (simp only [decide_eq_true_eq]; omega) | (simp; done) | (simp; omega)) ?_ | refine Ev.step (fun k => spileref16_Check.j2.eq_2 ..) ?_)
  · refine ⟨fun _ => ?_, fun h => absurd h (by decide)⟩
    refine Ev.step (fun k => spileref16_Check.l0.eq_2 ..) (evp h1 (evp h0 (evn (by omega) (evn (by omega) (evn (by omega) (Ev.step (fun k => spileref16_Check.j1.eq_2 ..) ?_))))))
    rw [hp]
    refine evn (by simp; omega) (evp b (evp h0 (evp h1 (evp (by omega) (evp (by omega) (Ev.step (fun k => spileref16_Check.j2.eq_2 ..) ?_))))))
    rw [hp]
    (repeat' first | assumption | exact Ev.now _ | exact evr rfl | refine evp (by first | omega | exact rfl | assumption | decide | (simp only [decide_eq_true_eq]; omega) | (simp; done) | (simp; omega)) ?_ | refine evn (by first | omega | assumption | decide | (simp only [decide_eq_true_eq]; omega) | (simp; done) | (simp; omega)) ?_)
  · refine ⟨fun h => absurd rfl h, fun _ r hr => ?_⟩
    refine Ev.step (fun k => spileref16_Check.l0.eq_2 ..) (evp h1 (evp h0 (evn (by omega) (evn (by omega) (evn (by omega) (Ev.step (fun k => spileref16_Check.j1.eq_2 ..) ?_))))))
    rw [hp]
    by_cases c : i > 0
    · obtain ⟨b1, b2⟩ := b c
      refine evn (by simp; omega) (evp c (evp h0 (evp h1 (evp (by omega) (evp (by omega) (Ev.step (fun k => spileref16_Check.j2.eq_2 ..) ?_))))))
      rw [hp, hs]
      (repeat' first | assumption | exact Ev.now _ | exact evr rfl | refine evp (by first | omega | exact rfl | assumption | decide | (simp only [decide_eq_true_eq]; omega) | (simp; done) | (simp; omega)) ?_ | refine evn (by first | omega | assumption | decide | (simp only [decide_eq_true_eq]; omega) | (simp; done) | (simp; omega)) ?_)
    · refine evn (by simp; omega) (evn c (Ev.step (fun k => spileref16_Check.j2.eq_2 ..) ?_))
      rw [hs]
      (repeat' first | assumption | exact Ev.now _ | exact evr rfl | refine evp (by first | omega | exact rfl | assumption | decide | (simp only [decide_eq_true_eq]; omega) | (simp; done) | (simp; omega)) ?_ | refine evn (by first | omega | assumption | decide | (simp only [decide_eq_true_eq]; omega) | (simp; done) | (simp; omega)) ?_)
/-- What stands at a check's end. -/
def tl (l : List S30) : Int × Int := if (rd_T30 l 0).f0 = 0 then (if (rd_T30 l ((l.length : Int) - 1)).f0 = 10000 then (-1, 0) else ((l.length : Int) - 1, 10)) else (0, 10)
theorem tl_cases (l : List S30) : ((rd_T30 l 0).f0 = 0 ∧ (rd_T30 l ((l.length : Int) - 1)).f0 = 10000 ∧ tl l = (-1, 0)) ∨ ((rd_T30 l 0).f0 = 0 ∧ ¬ (rd_T30 l ((l.length : Int) - 1)).f0 = 10000 ∧ tl l = ((l.length : Int) - 1, 10)) ∨ (¬ (rd_T30 l 0).f0 = 0 ∧ tl l = (0, 10)) := by
  unfold tl
  split
  · split
    · exact .inl ⟨by assumption, by assumption, rfl⟩
    · exact .inr (.inl ⟨by assumption, by assumption, rfl⟩)
  · exact .inr (.inr ⟨by assumption, rfl⟩)
def Spec (l : List S30) (i : Int) (r : Int × Int) : Prop :=
  (∃ j, i ≤ j ∧ j < (l.length : Int) ∧ flt l j ≠ 0 ∧ r = (j, flt l j) ∧ ∀ m, i ≤ m → m < j → flt l m = 0) ∨ ((∀ m, i ≤ m → m < (l.length : Int) → flt l m = 0) ∧ r = tl l)
theorem loops (l : List S30) (h2 : 2 ≤ (l.length : Int)) (hl : (l.length : Int) ≤ 9223372036854775807) : ∀ i, 0 ≤ i → i ≤ (l.length : Int) →
    ∃ r, Ev (fun k => density_Check.l0 k l (l.length : Int) i) r ∧ Ev (fun k => spileref16_Check.l0 k l i) r ∧ Spec l i r := by
  have hp := w64_pred (i := (l.length : Int)) (by omega) (Int.le_refl _) hl
  refine count_up 0 (l.length : Int) _ ?_ ?_
  · refine ⟨tl l, ?_, ?_, .inr ⟨fun m a b => absurd b (by omega), rfl⟩⟩
    · refine Ev.step (fun k => density_Check.l0.eq_2 ..) ?_
      rw [hp]
      rcases tl_cases l with ⟨a, b, e⟩ | ⟨a, b, e⟩ | ⟨a, e⟩ <;> rw [e]
      · (repeat' first | assumption | exact Ev.now _ | exact evr rfl | refine evp (by first | omega | exact rfl | assumption | decide | (simp only [decide_eq_true_eq]; omega) | (simp; done) | (simp; omega)) ?_ | refine evn (by first | omega | assumption | decide | (simp only [decide_eq_true_eq]; omega) | (simp; done) | (simp; omega)) ?_)
      · (repeat' first | assumption | exact Ev.now _ | exact evr rfl | refine evp (by first | omega | exact rfl | assumption | decide | (simp only [decide_eq_true_eq]; omega) | (simp; done) | (simp; omega)) ?_ | refine evn (by first | omega | assumption | decide | (simp only [decide_eq_true_eq]; omega) | (simp; done) | (simp; omega)) ?_)
      · (repeat' first | assumption | exact Ev.now _ | exact evr rfl | refine evp (by first | omega | exact rfl | assumption | decide | (simp only [decide_eq_true_eq]; omega) | (simp; done) | (simp; omega)) ?_ | refine evn (by first | omega | assumption | decide | (simp only [decide_eq_true_eq]; omega) | (simp; done) | (simp; omega)) ?_)
    · refine Ev.step (fun k => spileref16_Check.l0.eq_2 ..) ?_
      rw [hp]
      rcases tl_cases l with ⟨a, b, e⟩ | ⟨a, b, e⟩ | ⟨a, e⟩ <;> rw [e]
      · (repeat' first | assumption | exact Ev.now _ | exact evr rfl | refine evp (by first | omega | exact rfl | assumption | decide | (simp only [decide_eq_true_eq]; omega) | (simp; done) | (simp; omega)) ?_ | refine evn (by first | omega | assumption | decide | (simp only [decide_eq_true_eq]; omega) | (simp; done) | (simp; omega)) ?_)
      · (repeat' first | assumption | exact Ev.now _ | exact evr rfl | refine evp (by first | omega | exact rfl | assumption | decide | (simp only [decide_eq_true_eq]; omega) | (simp; done) | (simp; omega)) ?_ | refine evn (by first | omega | assumption | decide | (simp only [decide_eq_true_eq]; omega) | (simp; done) | (simp; omega)) ?_)
      · (repeat' first | assumption | exact Ev.now _ | exact evr rfl | refine evp (by first | omega | exact rfl | assumption | decide | (simp only [decide_eq_true_eq]; omega) | (simp; done) | (simp; omega)) ?_ | refine evn (by first | omega | assumption | decide | (simp only [decide_eq_true_eq]; omega) | (simp; done) | (simp; omega)) ?_)
  · intro i h0 h1 ih
    have hs := w64_succ h0 h1 hl
    have hf := fault_ev l hl i h0 h1
    have hr := ref_one l hl i h0 h1
    by_cases e : flt l i = 0
    · obtain ⟨r, r1, r2, r3⟩ := ih
      refine ⟨r, ?_, hr.2 e r r2, ?_⟩
      · refine Ev.step (fun k => density_Check.l0.eq_2 ..) (evp h1 (evb hf (evp e ?_)))
        rw [hs]
        exact r1
      · rcases r3 with ⟨j, a, b, c, d, f⟩ | ⟨a, b⟩
        · refine .inl ⟨j, by omega, b, c, d, fun m m1 m2 => ?_⟩
          by_cases q : m = i
          · subst q; exact e
          · exact f m (by omega) m2
        · refine .inr ⟨fun m m1 m2 => ?_, b⟩
          by_cases q : m = i
          · subst q; exact e
          · exact a m (by omega) m2
    · exact ⟨(i, flt l i), Ev.step (fun k => density_Check.l0.eq_2 ..) (evp h1 (evb hf (evn e (Ev.now _)))), hr.1 e, .inl ⟨i, Int.le_refl _, h1, e, rfl, fun m m1 m2 => absurd m2 (by omega)⟩⟩
/-- A table without fault. -/
def Good (l : List S30) : Prop := 2 ≤ (l.length : Int) ∧ (l.length : Int) ≤ 128 ∧ (∀ m, 0 ≤ m → m < (l.length : Int) → flt l m = 0) ∧ (rd_T30 l 0).f0 = 0 ∧ (rd_T30 l ((l.length : Int) - 1)).f0 = 10000
theorem tl_ok {l : List S30} : (tl l).2 = 0 ↔ ((rd_T30 l 0).f0 = 0 ∧ (rd_T30 l ((l.length : Int) - 1)).f0 = 10000) := by
  rcases tl_cases l with ⟨a, b, e⟩ | ⟨a, b, e⟩ | ⟨a, e⟩ <;> rw [e]
  · exact ⟨fun _ => ⟨a, b⟩, fun _ => rfl⟩
  · exact ⟨fun h => absurd (show (10 : Int) = 0 from h) (by decide), fun h => absurd h.2 b⟩
  · exact ⟨fun h => absurd h (by decide), fun h => absurd h.1 a⟩
theorem check_both (l : List S30) (hl : (l.length : Int) ≤ 9223372036854775807) : ∃ r, Ev (fun k => density_Check.f k l) r ∧ Ev (fun k => spileref16_Check.f k l) r ∧ (r.2 = 0 ↔ Good l) ∧ (2 ≤ (l.length : Int) → (l.length : Int) ≤ 128 → Spec l 0 r) := by
  unfold density_Check.f spileref16_Check.f
  by_cases c1 : (l.length : Int) > 128
  · exact ⟨(-1, 8), by (repeat' first | assumption | exact Ev.now _ | exact evr rfl | refine evp (by first | omega | exact rfl | assumption | decide | (simp only [decide_eq_true_eq]; omega) | (simp; done) | (simp; omega)) ?_ | refine evn (by first | omega | assumption | decide | (simp only [decide_eq_true_eq]; omega) | (simp; done) | (simp; omega)) ?_), by (repeat' first | assumption | exact Ev.now _ | exact evr rfl | refine evp (by first | omega | exact rfl | assumption | decide | (simp only [decide_eq_true_eq]; omega) | (simp; done) | (simp; omega)) ?_ | refine evn (by first | omega | assumption | decide | (simp only [decide_eq_true_eq]; omega) | (simp; done) | (simp; omega)) ?_), ⟨fun h => absurd h (by decide), fun h => absurd h.2.1 (by omega)⟩, fun _ h => absurd h (by omega)⟩
  · by_cases c2 : (l.length : Int) < 2
    · exact ⟨(-1, 9), by (repeat' first | assumption | exact Ev.now _ | exact evr rfl | refine evp (by first | omega | exact rfl | assumption | decide | (simp only [decide_eq_true_eq]; omega) | (simp; done) | (simp; omega)) ?_ | refine evn (by first | omega | assumption | decide | (simp only [decide_eq_true_eq]; omega) | (simp; done) | (simp; omega)) ?_), by (repeat' first | assumption | exact Ev.now _ | exact evr rfl | refine evp (by first | omega | exact rfl | assumption | decide | (simp only [decide_eq_true_eq]; omega) | (simp; done) | (simp; omega)) ?_ | refine evn (by first | omega | assumption | decide | (simp only [decide_eq_true_eq]; omega) | (simp; done) | (simp; omega)) ?_), ⟨fun h => absurd h (by decide), fun h => absurd h.1 (by omega)⟩, fun h => absurd h (by omega)⟩
    · obtain ⟨r, r1, r2, r3⟩ := loops l (by omega) hl 0 (by omega) (by omega)
      refine ⟨r, by (repeat' first | assumption | exact Ev.now _ | exact evr rfl | refine evp (by first | omega | exact rfl | assumption | decide | (simp only [decide_eq_true_eq]; omega) | (simp; done) | (simp; omega)) ?_ | refine evn (by first | omega | assumption | decide | (simp only [decide_eq_true_eq]; omega) | (simp; done) | (simp; omega)) ?_), by (repeat' first | assumption | exact Ev.now _ | exact evr rfl | refine evp (by first | omega | exact rfl | assumption | decide | (simp only [decide_eq_true_eq]; omega) | (simp; done) | (simp; omega)) ?_ | refine evn (by first | omega | assumption | decide | (simp only [decide_eq_true_eq]; omega) | (simp; done) | (simp; omega)) ?_), ?_, fun _ _ => r3⟩
      rcases r3 with ⟨j, a, b, c, rfl, f⟩ | ⟨a, rfl⟩
      · exact ⟨fun h => absurd h c, fun h => absurd (h.2.2.1 j a b) c⟩
      · rw [tl_ok]
        exact ⟨fun h => ⟨by omega, by omega, a, h.1, h.2⟩, fun h => ⟨h.2.2.2.1, h.2.2.2.2⟩⟩
theorem right_ev (l : List S30) (hl : (l.length : Int) ≤ 9223372036854775807) : EvB (fun k => density_right.f k l) (Good l) := by
  obtain ⟨r, r1, _, r3, _⟩ := check_both l hl
  exact ⟨fun h => evb r1 (evr (by simpa using r3.2 h)), fun h => evb r1 (evr (by simpa using fun q => h (r3.1 q)))⟩
theorem ref_right_ev (l : List S30) (hl : (l.length : Int) ≤ 9223372036854775807) : EvB (fun k => spileref16_Right.f k l) (Good l) := by
  obtain ⟨r, _, r1, r3, _⟩ := check_both l hl
  exact ⟨fun h => evb r1 (evr (by simpa using r3.2 h)), fun h => evb r1 (evr (by simpa using fun q => h (r3.1 q)))⟩
theorem good_row {l : List S30} (h : Good l) {m : Int} (h0 : 0 ≤ m) (h1 : m < (l.length : Int)) : 0 ≤ (rd_T30 l m).f0 ∧ (rd_T30 l m).f0 ≤ 10000 ∧ 50000 ≤ (rd_T30 l m).f1 ∧ (rd_T30 l m).f1 ≤ 120000 := by
  have e := h.2.2.1 m h0 h1
  rcases flt_cases l m with ⟨_, e2⟩ | ⟨a, _⟩
  · omega
  · exact a
theorem drop_rd {l : List S30} {i : Int} (h0 : 0 ≤ i) (h1 : i < (l.length : Int)) : l.drop i.toNat = rd_T30 l i :: l.drop (i + 1).toNat := by
  rw [show (i + 1).toNat = i.toNat + 1 from by omega, List.drop_eq_getElem_cons (by omega)]
  congr 1
  unfold rd_T30
  rw [List.getD_eq_getElem?_getD, List.getElem?_eq_getElem (by omega)]
  rfl
theorem few_ev (l : List S30) : ∃ b, spileref16_Few.f l = some b := by
  unfold spileref16_Few.f
  repeat' split
  all_goals exact ⟨_, rfl⟩
end Go.Proofs.YtoofoicocfnfoaaDoor.PL
namespace Go.Proofs.YtoofoicocfnfoaaDoor.PL
open Go Go.RowKit Go.Proofs.YtoofoicocfnfoaaDoorW.PrintWords Go.Proofs.YtoofoicocfnfoaaDoorW.PrintLast Go.Proofs.YtoofoicocfnfoaaDoorW.PrintMore Go.Proofs.YtoofoicocfnfoaaDoor.Pr Go.Proofs.YtoofoicocfnfoaaDoor.Opn
theorem rd_mem30 {l : List S30} {i : Int} (h0 : 0 ≤ i) (h : i < (l.length : Int)) : rd_T30 l i ∈ l := by
  unfold rd_T30
  rw [List.getD_eq_getElem?_getD, List.getElem?_eq_getElem (by omega)]
  exact List.getElem_mem _
theorem rd_of_mem30 {l : List S30} {x : S30} (h : x ∈ l) : ∃ i : Int, 0 ≤ i ∧ i < (l.length : Int) ∧ rd_T30 l i = x := by
  obtain ⟨i, hi⟩ := List.mem_iff_getElem?.1 h
  have hl := (List.getElem?_eq_some_iff.1 hi).1
  refine ⟨(i : Int), by omega, by omega, ?_⟩
  unfold rd_T30
  rw [List.getD_eq_getElem?_getD, Int.toNat_natCast, hi]
  rfl
theorem s30_eq {x y : S30} (h0 : x.f0 = y.f0) (h1 : x.f1 = y.f1) : x = y := by
  cases x; cases y
  simp only at h0 h1
  subst h0 h1
  rfl
theorem equal_self (l : List S30) (hl : (l.length : Int) ≤ 9223372036854775807) : Ev (fun k => api_Grade_23.f k l l) true := by
  refine evp rfl ?_
  refine count_up 0 (l.length : Int) (fun i => Ev (fun k => api_Grade_23.l0 k l l (l.length : Int) i) true) ?_ ?_ 0 (by omega) (by omega)
  · exact Ev.step (fun k => api_Grade_23.l0.eq_2 ..) (evn (by omega) (Ev.now _))
  · intro i h0 h1 ih
    have hs := w64_succ h0 h1 hl
    refine Ev.step (fun k => api_Grade_23.l0.eq_2 ..) ?_
    rw [hs]
    exact evp h1 (evp h0 (evp h1 (evp h1 (evn (by simp) ih))))
def Fin (f : Nat → List S30 → Option (Int × Int)) (out : List S30) (r : List S30 × Int) : Prop := ∃ c, Ev (fun k => f k out) c ∧ r = if c.2 = 0 then (out, 0) else ([], c.2)
end Go.Proofs.YtoofoicocfnfoaaDoor.PL
namespace Go.Proofs.YtoofoicocfnfoaaDoor.PL
open Go Go.RowKit Go.Proofs.YtoofoicocfnfoaaDoorW.PrintWords Go.Proofs.YtoofoicocfnfoaaDoorW.PrintLast Go.Proofs.YtoofoicocfnfoaaDoorW.PrintMore Go.Proofs.YtoofoicocfnfoaaDoor.Pr Go.Proofs.YtoofoicocfnfoaaDoor.Opn Go.Proofs.YtoofoicocfnfoaaDoor.TX Go.Proofs.YtoofoicocfnfoaaDoor.X
def wStr : List UInt8 := [115, 116, 114, 101, 110, 103, 116, 104]
def wDen : List UInt8 := [100, 101, 110, 115, 105, 116, 121]
/-- The row with a line. -/
def rowW : List (List UInt8) → Option S30
  | [a, b, c, d] => if a = wStr ∧ c = wDen then (match numP 6 b with
    | none => none
    | some x => match numP 6 d with
      | none => none
      | some y => some ⟨(x : Int), (y : Int)⟩) else none
  | _ => none
def lineL (l : List UInt8) : Option S30 := rowW (parts 32 l)
def lineT (x : S30) : List UInt8 := wStr ++ 32 :: (Lib.itoa x.f0 ++ 32 :: (wDen ++ 32 :: Lib.itoa x.f1))
theorem numd_ev (b : List UInt8) (hb : b.length ≤ 281474976710656) : ∃ p : Int × Bool, density_number.f (ba b) = some p ∧ (∀ v, numP 6 b = some v → p = ((v : Int), true)) ∧ (numP 6 b = none → p.2 = false) := by
  obtain ⟨n, e, h1, h2, h3⟩ := atoi_cases (ba b) (by rw [ba_size]; exact hb)
  rw [ba_list] at h2
  have ok_of : Canon b ∧ b.length ≤ 6 → e = none ∧ n = ((valFrom 0 b : Nat) : Int) := fun h => by
    have ha := atoi_of_canon h.1 (by omega)
    cases e with
    | none =>
      have := h2.1 rfl
      rw [ha] at this
      injection this with this
      exact ⟨rfl, this.symm⟩
    | some q =>
      exfalso
      unfold strconv_Atoi.f at h1
      rw [if_pos (by rw [ba_size]; exact hb), ba_list, ha] at h1
      simp at h1
  have small : Canon b ∧ b.length ≤ 6 → ((valFrom 0 b : Nat) : Int) ≤ 999999 := fun h => by
    have := numP_lt (most := 6) (s := b) (v := valFrom 0 b) (by unfold numP; rw [if_pos h])
    omega
  unfold density_number.f
  rw [h1]
  simp only [Option.bind_some]
  by_cases hc : Canon b ∧ b.length ≤ 6
  · have hv : numP 6 b = some (valFrom 0 b) := by unfold numP; rw [if_pos hc]
    obtain ⟨rfl, rfl⟩ := ok_of hc
    have hs := small hc
    refine ⟨(((valFrom 0 b : Nat) : Int), true), ?_, fun v h => ?_, fun h => ?_⟩
    · rw [if_pos (show (none : Option Int).isNone = true from rfl), if_pos (by omega), if_pos hs, itoa_f h3.1 h3.2]
      simp only [Option.bind_some]
      rw [itoa_of_canon hc.1, ba_toList, beq_self_eq_true]
    · rw [hv] at h; rw [← Option.some.inj h]
    · rw [hv] at h; cases h
  · have hv : numP 6 b = none := by unfold numP; rw [if_neg hc]
    cases e with
    | some q => exact ⟨(n, false), by rw [if_neg (by simp)], (fun v h => by rw [hv] at h; cases h), (fun _ => rfl)⟩
    | none =>
      rw [if_pos (show (none : Option Int).isNone = true from rfl)]
      by_cases c1 : n ≥ 0
      · rw [if_pos c1]
        by_cases c2 : n ≤ 999999
        · rw [if_pos c2, itoa_f h3.1 h3.2]
          simp only [Option.bind_some]
          refine ⟨_, rfl, (fun v h => by rw [hv] at h; cases h), fun _ => ?_⟩
          rw [ba_toList, ba_toList]
          show (Lib.itoa n == b) = false
          rw [beq_eq_false_iff_ne]
          intro h
          have hl := itoa_le (n := n) (m := 6) c1 (by omega) (by omega)
          rw [h] at hl
          exact hc ⟨(canon_of_atoi c1 h).1, hl⟩
        · rw [if_neg c2]; exact ⟨_, rfl, (fun v h => by rw [hv] at h; cases h), (fun _ => rfl)⟩
      · rw [if_neg c1]; exact ⟨_, rfl, (fun v h => by rw [hv] at h; cases h), (fun _ => rfl)⟩
theorem mem_parts_len {s p : List UInt8} : p ∈ parts 32 s → p.length ≤ s.length := by
  induction s generalizing p with
  | nil => intro h; simp [parts] at h; simp [h]
  | cons b r ih =>
    intro h
    rw [parts_cons] at h
    by_cases c : b = 32
    · rw [if_pos c] at h
      rcases List.mem_cons.1 h with h | h
      · simp [h]
      · have := ih h; simp; omega
    · rw [if_neg c] at h
      cases hp : parts 32 r with
      | nil => exact absurd hp (parts_ne 32 r)
      | cons q t =>
        rw [hp] at h ih
        rcases List.mem_cons.1 h with h | h
        · have := ih (p := q) (by simp); rw [h]; simp; omega
        · have := ih (p := p) (by simp [h]); simp; omega
theorem dline (l : List UInt8) (f : Bool) (hl : l.length ≤ 100000) : density_Parse.line (ba l, f) = some (if f = true then lineL l else none) := by
  unfold density_Parse.line
  have hs := split_ev (ba l) (by rw [ba_size]; omega)
  rw [ba_list] at hs
  show (strings_Split.f (ba l) ⟨#[32]⟩).bind _ = _
  rw [hs]
  simp only [Option.bind_some]
  have hm : ∀ p, p ∈ parts 32 l → p.length ≤ 281474976710656 := fun p hp => by have := mem_parts_len hp; omega
  unfold lineL
  generalize parts 32 l = ws at hm
  cases f with
  | false => rw [if_neg (by simp)]; rfl
  | true =>
    match ws with
    | [a, b, c, d] =>
      have z0 : ([a, b, c, d].map ba).getD 0 ⟨#[]⟩ = ba a := rfl
      have z1 : ([a, b, c, d].map ba).getD 1 ⟨#[]⟩ = ba b := rfl
      have z2 : ([a, b, c, d].map ba).getD 2 ⟨#[]⟩ = ba c := rfl
      have z3 : ([a, b, c, d].map ba).getD 3 ⟨#[]⟩ = ba d := rfl
      rw [z0, z1, z2, z3, ba_toList, ba_toList]
      simp only [rowW]
      by_cases h : a = wStr ∧ c = wDen
      · rw [if_pos ⟨trivial, by simp, h.1, h.2⟩, if_pos h]
        obtain ⟨p, p1, p2, p3⟩ := numd_ev b (hm b (by simp))
        obtain ⟨q, q1, q2, q3⟩ := numd_ev d (hm d (by simp))
        rw [p1, q1]
        simp only [Option.bind_some]
        cases hb : numP 6 b with
        | none => rw [if_neg (by rw [p3 hb]; simp)]; rfl
        | some x =>
          cases hd : numP 6 d with
          | none => rw [if_neg (by rw [q3 hd]; simp)]; rfl
          | some y => rw [p2 x hb, q2 y hd, if_pos ⟨rfl, rfl⟩]; rfl
      · rw [if_neg (fun q => h ⟨q.2.2.1, q.2.2.2⟩), if_neg h]; rfl
    | [] => rw [if_neg (by simp)]; rfl
    | [_] => rw [if_neg (by simp)]; rfl
    | [_, _] => rw [if_neg (by simp)]; rfl
    | [_, _, _] => rw [if_neg (by simp)]; rfl
    | _ :: _ :: _ :: _ :: _ :: r => rw [if_neg (by simp)]; rfl
theorem all_at {all : List (List UInt8)} {l : List UInt8} {r : List (List UInt8)} {n : Nat} (h : all.drop n = l :: r) : n < all.length ∧ rdOf ByteArray.empty (all.map ba) (n : Int) = ba l ∧ all.drop (n + 1) = r := by
  have hn : n < all.length := by
    rcases Nat.lt_or_ge n all.length with h' | h'
    · exact h'
    · rw [List.drop_eq_nil_of_le h'] at h; cases h
  refine ⟨hn, ?_, ?_⟩
  · unfold rdOf
    rw [List.getD_eq_getElem?_getD, Int.toNat_natCast, List.getElem?_map]
    have e : all[n]? = some l := by
      have := congrArg (·[0]?) h
      rw [List.getElem?_drop] at this
      simpa using this
    rw [e]; rfl
  · rw [← List.drop_drop, h]; rfl
theorem ref_round (e : Bool) (all : List (List UInt8)) (l : List UInt8) (r : List (List UInt8)) (out : List S30) (hd : all.drop out.length = l :: r) (hlen : out.length + (r.length + 1) = all.length) (hl : l.length ≤ 100000) (ha : all.length ≤ 1000000) :
    (lineL l = none ∨ (r = [] ∧ e = false) → Ev (fun k => spileref16_Parse.l0 k (all.map ba) e out (out.length : Int)) ([], (out.length : Int), 3)) ∧
    (∀ x, lineL l = some x → ¬ (r = [] ∧ e = false) → ∀ y, Ev (fun k => spileref16_Parse.l0 k (all.map ba) e (out ++ [x]) (((out ++ [x]).length : Nat) : Int)) y → Ev (fun k => spileref16_Parse.l0 k (all.map ba) e out (out.length : Int)) y) := by
  obtain ⟨hn, hat, _⟩ := all_at hd
  have hw := words_ev (ba l) (by rw [ba_size]; omega)
  rw [ba_list] at hw
  have hw1 : wrap64 (((all.map ba).length : Int) - 1) = (all.length : Int) - 1 := by rw [List.length_map, w64 (by omega) (by omega)]
  have hw2 : wrap64 ((out.length : Int) + 1) = (((out.length + 1 : Nat)) : Int) := by rw [w64 (by omega) (by omega)]; omega
  have lenS : ∀ x : S30, (out ++ [x]).length = out.length + 1 := fun x => by simp
  have last : ((out.length : Int) = (all.length : Int) - 1) ↔ r = [] := by
    constructor
    · intro h; exact List.eq_nil_of_length_eq_zero (by omega)
    · intro h; rw [h] at hlen; simp at hlen; omega
  unfold lineL
  generalize parts 32 l = ws at hw
  have pre : ∀ (g : Nat → Option (List S30 × Int × Int)) y, Ev g y → (∀ k, g k = (if ((ws.map ba).length : Int) = 4 then (if 0 < ((ws.map ba).length : Int) then (if (rdOf ByteArray.empty (ws.map ba) 0).toList = ([115, 116, 114, 101, 110, 103, 116, 104] : List UInt8) then (if 2 < ((ws.map ba).length : Int) then (if (rdOf ByteArray.empty (ws.map ba) 2).toList = ([100, 101, 110, 115, 105, 116, 121] : List UInt8) then (if (out.length : Int) = (all.length : Int) - 1 then (spileref16_Parse.j1 k (all.map ba) e out (out.length : Int) (ws.map ba) (!e)) else (spileref16_Parse.j1 k (all.map ba) e out (out.length : Int) (ws.map ba) false)) else (spileref16_Parse.j1 k (all.map ba) e out (out.length : Int) (ws.map ba) true)) else (none)) else (spileref16_Parse.j1 k (all.map ba) e out (out.length : Int) (ws.map ba) true)) else (none)) else (spileref16_Parse.j1 k (all.map ba) e out (out.length : Int) (ws.map ba) true))) → Ev (fun k => spileref16_Parse.l0 k (all.map ba) e out (out.length : Int)) y := by
    intro g y hg hk
    refine Ev.step (fun k => spileref16_Parse.l0.eq_2 ..) ?_
    rw [hat, hw1]
    exact evp (by rw [List.length_map]; omega) (evp (by omega) (evb hw (Ev.congr (fun k => (hk k).symm) hg)))
  have no : Ev (fun k => spileref16_Parse.j1 k (all.map ba) e out (out.length : Int) (ws.map ba) true) ([], (out.length : Int), 3) := Ev.step (fun k => spileref16_Parse.j1.eq_2 ..) (evp rfl (Ev.now _))
  have short : ws.length ≠ 4 → Ev (fun k => spileref16_Parse.l0 k (all.map ba) e out (out.length : Int)) ([], (out.length : Int), 3) := fun h =>
    pre _ _ no (fun k => by rw [if_neg (by rw [List.length_map]; omega)])
  match ws with
  | [a, b, c, d] =>
    have z0 : rdOf ByteArray.empty ([a, b, c, d].map ba) 0 = ba a := rfl
    have z1 : rdOf ByteArray.empty ([a, b, c, d].map ba) 1 = ba b := rfl
    have z2 : rdOf ByteArray.empty ([a, b, c, d].map ba) 2 = ba c := rfl
    have z3 : rdOf ByteArray.empty ([a, b, c, d].map ba) 3 = ba d := rfl
    have L4 : (([a, b, c, d].map ba).length : Int) = 4 := rfl
    rw [z0, z2, L4, ba_toList, ba_toList] at pre
    simp only [rowW]
    by_cases ha1 : a = wStr
    case neg =>
      rw [if_neg (fun q => ha1 q.1)]
      exact ⟨fun _ => pre _ _ no (fun k => by rw [if_pos rfl, if_pos (by omega), if_neg (show ¬ a = [115, 116, 114, 101, 110, 103, 116, 104] from ha1)]), fun x h => by cases h⟩
    by_cases hc1 : c = wDen
    case neg =>
      rw [if_neg (fun q => hc1 q.2)]
      exact ⟨fun _ => pre _ _ no (fun k => by rw [if_pos rfl, if_pos (by omega), if_pos (show a = [115, 116, 114, 101, 110, 103, 116, 104] from ha1), if_pos (by omega), if_neg (show ¬ c = [100, 101, 110, 115, 105, 116, 121] from hc1)]), fun x h => by cases h⟩
    rw [if_pos ⟨ha1, hc1⟩]
    by_cases hlast : r = [] ∧ e = false
    · refine ⟨fun _ => pre _ _ no (fun k => by rw [if_pos rfl, if_pos (by omega), if_pos (show a = [115, 116, 114, 101, 110, 103, 116, 104] from ha1), if_pos (by omega), if_pos (show c = [100, 101, 110, 115, 105, 116, 121] from hc1), if_pos (last.2 hlast.1), hlast.2]; rfl), fun x _ h => absurd hlast h⟩
    · have pre2 : ∀ y, Ev (fun k => spileref16_Parse.j1 k (all.map ba) e out (out.length : Int) ([a, b, c, d].map ba) false) y → Ev (fun k => spileref16_Parse.l0 k (all.map ba) e out (out.length : Int)) y := by
        intro y hy
        refine pre _ _ hy (fun k => ?_)
        rw [if_pos rfl, if_pos (by omega), if_pos (show a = [115, 116, 114, 101, 110, 103, 116, 104] from ha1), if_pos (by omega), if_pos (show c = [100, 101, 110, 115, 105, 116, 121] from hc1)]
        by_cases h : (out.length : Int) = (all.length : Int) - 1
        · rw [if_pos h]
          have hr := last.1 h
          cases e with
          | true => rfl
          | false => exact absurd ⟨hr, rfl⟩ hlast
        · rw [if_neg h]
      have nb := number_ev (ba b) 6 (by omega)
      have nd := number_ev (ba d) 6 (by omega)
      rw [ba_list] at nb nd
      have pre3 : ∀ y, Ev (fun k => if (numR 6 b).2 = true then (if (numR 6 d).2 = true then (if out.length < 8796093022208 then (spileref16_Parse.l0 k (all.map ba) e (out ++ [(⟨(numR 6 b).1, (numR 6 d).1⟩ : S30)]) (((out.length + 1 : Nat)) : Int)) else none) else (some (([] : List S30), (out.length : Int), 3))) else (some (([] : List S30), (out.length : Int), 3))) y → Ev (fun k => spileref16_Parse.l0 k (all.map ba) e out (out.length : Int)) y := by
        intro y hy
        refine pre2 y (Ev.step (fun k => spileref16_Parse.j1.eq_2 ..) ?_)
        rw [L4, z1, z3, hw2]
        exact evn (by simp) (evp (by omega) (evb nb (evp (by omega) (evb nd hy))))
      cases hb : numP 6 b with
      | none => exact ⟨fun _ => pre3 _ (evn (by simp [numR, hb]) (Ev.now _)), fun x h => by cases h⟩
      | some x1 =>
        cases hdd : numP 6 d with
        | none => exact ⟨fun _ => pre3 _ (evp (by simp [numR, hb]) (evn (by simp [numR, hdd]) (Ev.now _))), fun x h => by cases h⟩
        | some x2 =>
          refine ⟨fun h => ?_, fun x h _ y hy => ?_⟩
          · rcases h with h | h
            · cases h
            · exact absurd h hlast
          · have hx := Option.some.inj h
            rw [lenS, ← hx] at hy
            refine pre3 y (evp (by simp [numR, hb]) (evp (by simp [numR, hdd]) (evp (by omega) ?_)))
            have y1 : (numR 6 b).1 = (x1 : Int) := by simp [numR, hb]
            have y2 : (numR 6 d).1 = (x2 : Int) := by simp [numR, hdd]
            rw [y1, y2]
            exact hy
  | [] => exact ⟨fun _ => short (by simp), fun x h => by cases h⟩
  | [_] => exact ⟨fun _ => short (by simp), fun x h => by cases h⟩
  | [_, _] => exact ⟨fun _ => short (by simp), fun x h => by cases h⟩
  | [_, _, _] => exact ⟨fun _ => short (by simp), fun x h => by cases h⟩
  | _ :: _ :: _ :: _ :: _ :: t => exact ⟨fun _ => short (by simp), fun x h => by cases h⟩
def runR (r : List S30 × Int × Int) : List S30 × Option Nat → Prop
  | (o, none) => (Good o → r = (o, -1, 0)) ∧ (¬ Good o → ∃ c : Int, c ≠ 0 ∧ r = ([], -1, c))
  | (_, some i) => r = ([], (i : Int), 3)
theorem lns_next {s : List UInt8} (h : s ≠ []) : lns (ba s) = (ba (cut1 10 s).1, (cut1 10 s).2.2) :: lns (ba (cut1 10 s).2.1) := by
  have hs : ¬ (ba s).size = 0 := fun e => h (List.eq_nil_of_length_eq_zero e)
  rw [lns_cons hs]; rfl
theorem parse_loop (e : Bool) : ∀ (ls : List (List UInt8)) (s : List UInt8) (all : List (List UInt8)) (out : List S30), lin [] s = (ls, e) → s.length ≤ 70000 → all.drop out.length = ls → out.length + ls.length = all.length → all.length ≤ 1000000 →
    ∃ r, Ev (fun k => density_Parse.rows k (lns (ba s)) out) r ∧ Ev (fun k => spileref16_Parse.l0 k (all.map ba) e out (out.length : Int)) r ∧ runR r (run lineL e ls out) := by
  intro ls
  induction ls with
  | nil =>
    intro s all out h1 h2 h3 h4 h5
    obtain ⟨rfl, rfl⟩ := lin_nil h1
    obtain ⟨c, c1, c2, c3, _⟩ := check_both out (by omega)
    have e0 : lns (ba ([] : List UInt8)) = [] := lns_nil rfl
    rw [e0]
    refine ⟨if c.2 = 0 then (out, -1, 0) else ([], -1, c.2), ?_, Ev.step (fun k => spileref16_Parse.l0.eq_2 ..) (evn (by rw [List.length_map]; simp at h4; omega) (evb c2 ?_)), ?_⟩
    · show Ev (fun k => (density_Check.f k out).bind fun c => if c.2 = 0 then some (out, -1, 0) else some ([], -1, c.2)) _
      refine evb c1 ?_
      by_cases q : c.2 = 0
      · exact evp q (evr (by rw [if_pos q]))
      · exact evn q (evr (by rw [if_neg q]))
    · by_cases q : c.2 = 0
      · exact evp q (evr (by rw [if_pos q]))
      · exact evn q (evr (by rw [if_neg q]))
    · refine ⟨fun g => by rw [if_pos (c3.2 g)], fun g => ⟨c.2, fun q => g (c3.1 q), by rw [if_neg (fun q => g (c3.1 q))]⟩⟩
  | cons l r ih =>
    intro s all out h1 h2 h3 h4 h5
    obtain ⟨e1, e2, hne, hll⟩ := lin_next h1
    have hd := dline (cut1 10 s).1 (cut1 10 s).2.2 (by rw [e1]; omega)
    have hr := ref_round e all l r out h3 (by simpa using h4) (by omega) h5
    rw [lns_next hne]
    have hlt : out.length < 4294967296 := by simp at h4; omega
    have step : ∀ y, Ev (fun k => match (if (cut1 10 s).2.2 = true then lineL l else none) with
        | none => some (([] : List S30), (out.length : Int), (3 : Int))
        | some g => density_Parse.rows k (lns (ba (cut1 10 s).2.1)) (out ++ [g])) y → Ev (fun k => density_Parse.rows k ((ba (cut1 10 s).1, (cut1 10 s).2.2) :: lns (ba (cut1 10 s).2.1)) out) y := by
      intro y hy
      show Ev (fun k => if out.length < 4294967296 then (density_Parse.line (ba (cut1 10 s).1, (cut1 10 s).2.2)).bind fun y => match y with
        | none => some ([], (out.length : Int), 3)
        | some g => density_Parse.rows k (lns (ba (cut1 10 s).2.1)) (out ++ [g]) else none) y
      rw [hd, e1]
      simp only [Option.bind_some]
      exact evp hlt hy
    rw [run_cons]
    cases hx : lineL l with
    | none =>
      refine ⟨([], (out.length : Int), 3), step _ ?_, hr.1 (.inl hx), rfl⟩
      rw [hx, ite_self]
      exact Ev.now _
    | some x =>
      rw [hx] at step
      simp only []
      rcases e2 with ⟨c, hrest⟩ | ⟨c, _, rfl, rfl⟩
      · have hno : ¬ (r = [] ∧ e = false) := fun h => by
          have := (lin_nil (s := (cut1 10 s).2.1) (e := e) (by rw [hrest, h.1])).2
          rw [h.2] at this; cases this
        rw [if_neg hno]
        have hl2 := cut1_len 10 s c
        have h3' := (all_at h3).2.2
        obtain ⟨y, y1, y2, y3⟩ := ih (cut1 10 s).2.1 all (out ++ [x]) hrest (by omega) (by rw [List.length_append]; exact h3') (by rw [List.length_append]; simp at h4 ⊢; omega) h5
        rw [if_pos c] at step
        exact ⟨y, step y y1, hr.2 x hx hno y y2, y3⟩
      · rw [if_pos ⟨rfl, rfl⟩]
        rw [if_neg (by rw [c]; simp)] at step
        exact ⟨_, step _ (Ev.now _), hr.1 (.inr ⟨rfl, rfl⟩), rfl⟩
theorem parse_both (s : ByteArray) (hs : s.size ≤ 65536) : ∃ r, Ev (fun k => density_Parse.f k s) r ∧ Ev (fun k => spileref16_Parse.f k s) r ∧ runR r (run lineL (lin [] s.data.toList).2 (lin [] s.data.toList).1 []) := by
  have hl := lines_ev s (by omega)
  have hlen := lin_len s.data.toList []
  rw [size_data] at hlen
  obtain ⟨r, r1, r2, r3⟩ := parse_loop (lin [] s.data.toList).2 (lin [] s.data.toList).1 s.data.toList (lin [] s.data.toList).1 [] rfl (by rw [size_data]; omega) rfl (by simp) (by omega)
  rw [ba_data] at r1
  exact ⟨r, evn (by omega) r1, evn (by omega) (evb hl r2), r3⟩
def RowP (x : S30) : Prop := 0 ≤ x.f0 ∧ x.f0 ≤ 10000 ∧ 50000 ≤ x.f1 ∧ x.f1 ≤ 120000
theorem good_rows {l : List S30} (h : Good l) : ∀ x, x ∈ l → RowP x := fun x hx => by
  obtain ⟨i, h0, h1, rfl⟩ := rd_of_mem30 hx
  exact good_row h h0 h1
theorem lineT_len {x : S30} (h : RowP x) : (lineT x).length ≤ 30 := by
  obtain ⟨a, b, c, d⟩ := h
  have y0 := itoa_le (n := x.f0) (m := 6) (by omega) (by omega) (by omega)
  have y1 := itoa_le (n := x.f1) (m := 6) (by omega) (by omega) (by omega)
  simp only [lineT, wStr, wDen, List.length_append, List.length_cons, List.length_nil]
  omega
theorem line_back {x : S30} (h : RowP x) : lineL (lineT x) = some x := by
  obtain ⟨a, b, c, d⟩ := h
  have i0 := itoa_no (n := x.f0) (by omega) (c := 32) rfl
  have i1 := itoa_no (n := x.f1) (by omega) (c := 32) rfl
  unfold lineL lineT
  rw [parts_app 32 wStr _ (by decide), parts_app 32 _ _ i0, parts_app 32 wDen _ (by decide), parts_no 32 _ i1]
  simp only [rowW]
  rw [if_pos ⟨trivial, trivial⟩, itoa_numP (by omega) (by omega) (by omega), itoa_numP (by omega) (by omega) (by omega)]
  refine congrArg some (s30_eq ?_ ?_)
  · show ((x.f0.toNat : Nat) : Int) = x.f0; omega
  · show ((x.f1.toNat : Nat) : Int) = x.f1; omega
theorem lineT_no {x : S30} (h : RowP x) : (10 : UInt8) ∉ lineT x := by
  obtain ⟨a, b, c, d⟩ := h
  have i0 := itoa_no (n := x.f0) (by omega) (c := 10) rfl
  have i1 := itoa_no (n := x.f1) (by omega) (c := 10) rfl
  simp only [lineT, List.mem_append, List.mem_cons, not_or]
  exact ⟨by decide, by decide, i0, by decide, by decide, by decide, i1⟩
theorem line_again : ∀ (l : List UInt8) (x : S30), lineL l = some x → lineT x = l := by
  intro l x h
  unfold lineL at h
  have hg := glue_parts 32 l
  generalize parts 32 l = ws at h hg
  match ws with
  | [a, b, c, d] =>
    simp only [rowW] at h
    by_cases hh : a = wStr ∧ c = wDen
    case neg => rw [if_neg hh] at h; cases h
    rw [if_pos hh] at h
    cases hb : numP 6 b with
    | none => rw [hb] at h; cases h
    | some x1 =>
      cases hd : numP 6 d with
      | none => rw [hb, hd] at h; cases h
      | some x2 =>
        rw [hb, hd] at h
        obtain rfl := Option.some.inj h
        have k1 := numP_itoa hb
        have k2 := numP_itoa hd
        rw [← hg, hh.1, hh.2]
        simp only [lineT, k1, k2, glue]
  | [] => cases h
  | [_] => cases h
  | [_, _] => cases h
  | [_, _, _] => cases h
  | _ :: _ :: _ :: _ :: _ :: _ => cases h
theorem part_eq {x : S30} (h : RowP x) : density_Print.part x = some (ba (lineT x ++ [10])) := by
  obtain ⟨a, b, c, d⟩ := h
  have y0 := itoa_le (n := x.f0) (m := 6) (by omega) (by omega) (by omega)
  have y1 := itoa_le (n := x.f1) (m := 6) (by omega) (by omega) (by omega)
  unfold density_Print.part
  rw [itoa_f (by omega) (by omega), itoa_f (by omega) (by omega)]
  show (if (ba (Lib.itoa x.f0)).size ≤ 100 ∧ (ba (Lib.itoa x.f1)).size ≤ 100 then some ((((ba [115, 116, 114, 101, 110, 103, 116, 104, 32] ++ ba (Lib.itoa x.f0)) ++ ba [32, 100, 101, 110, 115, 105, 116, 121, 32]) ++ ba (Lib.itoa x.f1)) ++ ba [10]) else none) = _
  rw [if_pos (by rw [ba_size, ba_size]; omega), ba_app, ba_app, ba_app, ba_app]
  simp [lineT, wStr, wDen]
theorem app_eq (acc s : List UInt8) (h : acc.length + s.length ≤ 140737488355328) : density_Print.app acc (ba s) = some (acc ++ s) := by
  unfold density_Print.app
  rw [ba_size, if_pos h]
  rfl
theorem print_loop (l : List S30) (hn : (l.length : Int) ≤ 128) (h : ∀ x, x ∈ l → RowP x) : ∀ i, 0 ≤ i → i ≤ (l.length : Int) → ∀ acc : List UInt8, (acc.length : Int) ≤ 31 * i →
    Ev (fun k => density_Print.l0 k l acc i) (ba (acc ++ printL lineT (l.drop i.toNat)), 0) := by
  refine count_up 0 (l.length : Int) _ ?_ ?_
  · intro acc ha
    rw [List.drop_eq_nil_of_le (by omega)]
    exact Ev.step (fun k => density_Print.l0.eq_2 ..) (evn (by omega) (evr (by simp [printL, ba])))
  · intro i h0 h1 ih acc ha
    have hx := h _ (rd_mem30 h0 h1)
    have hl := lineT_len hx
    have q := ih (acc ++ (lineT (rd_T30 l i) ++ [10])) (by simp only [List.length_append, List.length_cons, List.length_nil]; omega)
    rw [drop_rd h0 h1]
    refine Ev.step (fun k => density_Print.l0.eq_2 ..) (evp h1 (evp h0 ?_))
    rw [part_eq hx, w64_succ h0 h1 (by omega)]
    simp only [Option.bind_some]
    rw [app_eq _ _ (by simp only [List.length_append, List.length_cons, List.length_nil]; omega)]
    simp only [Option.bind_some]
    simp only [printL, List.append_assoc, List.cons_append, List.nil_append] at q ⊢
    exact q
theorem ref_print_loop (l : List S30) (hn : (l.length : Int) ≤ 128) (h : ∀ x, x ∈ l → RowP x) : ∀ i, 0 ≤ i → i ≤ (l.length : Int) → ∀ acc : List UInt8, (acc.length : Int) ≤ 31 * i →
    Ev (fun k => spileref16_Print.l0 k l (ba acc) i) (ba (acc ++ printL lineT (l.drop i.toNat)), 0) := by
  refine count_up 0 (l.length : Int) _ ?_ ?_
  · intro acc ha
    rw [List.drop_eq_nil_of_le (by omega)]
    exact Ev.step (fun k => spileref16_Print.l0.eq_2 ..) (evn (by omega) (evr (by simp [printL])))
  · intro i h0 h1 ih acc ha
    have hx := h _ (rd_mem30 h0 h1)
    have hl := lineT_len hx
    obtain ⟨a, b, c, d⟩ := hx
    have y0 := itoa_le (n := (rd_T30 l i).f0) (m := 6) (by omega) (by omega) (by omega)
    have y1 := itoa_le (n := (rd_T30 l i).f1) (m := 6) (by omega) (by omega) (by omega)
    have q := ih (acc ++ (lineT (rd_T30 l i) ++ [10])) (by simp only [List.length_append, List.length_cons, List.length_nil]; omega)
    rw [drop_rd h0 h1]
    refine Ev.step (fun k => spileref16_Print.l0.eq_2 ..) (evp h1 (evp (by rw [ba_size]; omega) (evp h0 (evb (dec_ev (by omega) (by omega)) ?_))))
    have e1 : ba acc ++ (⟨#[115, 116, 114, 101, 110, 103, 116, 104, 32]⟩ : ByteArray) = ba (acc ++ [115, 116, 114, 101, 110, 103, 116, 104, 32]) := ba_app _ _
    rw [e1, ba_app]
    have e2 : ba (acc ++ [115, 116, 114, 101, 110, 103, 116, 104, 32] ++ Lib.itoa (rd_T30 l i).f0) ++ (⟨#[32, 100, 101, 110, 115, 105, 116, 121, 32]⟩ : ByteArray) = ba (acc ++ [115, 116, 114, 101, 110, 103, 116, 104, 32] ++ Lib.itoa (rd_T30 l i).f0 ++ [32, 100, 101, 110, 115, 105, 116, 121, 32]) := ba_app _ _
    rw [e2]
    refine evp (by rw [ba_size, ba_size]; simp only [List.length_append, List.length_cons, List.length_nil]; omega) (evp (by rw [ba_size]; simp only [List.length_append, List.length_cons, List.length_nil]; omega) (evb (dec_ev (by omega) (by omega)) ?_))
    rw [ba_app]
    have e3 : ba (acc ++ [115, 116, 114, 101, 110, 103, 116, 104, 32] ++ Lib.itoa (rd_T30 l i).f0 ++ [32, 100, 101, 110, 115, 105, 116, 121, 32] ++ Lib.itoa (rd_T30 l i).f1) ++ (⟨#[10]⟩ : ByteArray) = ba (acc ++ [115, 116, 114, 101, 110, 103, 116, 104, 32] ++ Lib.itoa (rd_T30 l i).f0 ++ [32, 100, 101, 110, 115, 105, 116, 121, 32] ++ Lib.itoa (rd_T30 l i).f1 ++ [10]) := ba_app _ _
    rw [e3]
    refine evp (by rw [ba_size, ba_size]; simp only [List.length_append, List.length_cons, List.length_nil]; omega) (evp (by rw [ba_size]; simp only [List.length_append, List.length_cons, List.length_nil]; omega) ?_)
    rw [w64_succ h0 h1 (by omega)]
    simp only [printL, lineT, wStr, wDen, List.append_assoc, List.cons_append, List.nil_append] at q ⊢
    exact q
theorem print_both (l : List S30) (hl : (l.length : Int) ≤ 9223372036854775807) : ∃ r, Ev (fun k => density_Print.f k l) r ∧ Ev (fun k => spileref16_Print.f k l) r ∧ (Good l → r = (ba (printL lineT l), 0)) ∧ (¬ Good l → r = (ba [], 1)) := by
  have b1 := right_ev l hl
  have b2 := ref_right_ev l hl
  by_cases hg : Good l
  · have hf := good_rows hg
    have p1 := print_loop l hg.2.1 hf 0 (by omega) (by omega) [] (by simp)
    have p2 := ref_print_loop l hg.2.1 hf 0 (by omega) (by omega) [] (by simp)
    rw [show (0 : Int).toNat = 0 from rfl, List.drop_zero, List.nil_append] at p1 p2
    exact ⟨_, evb (b1.1 hg) (evp rfl p1), evb (b2.1 hg) (evp rfl p2), fun _ => rfl, fun h => absurd hg h⟩
  · exact ⟨(ba [], 1), evb (b1.2 hg) (evn (by simp) (Ev.now _)), evb (b2.2 hg) (evn (by simp) (Ev.now _)), fun h => absurd h hg, fun _ => rfl⟩
end Go.Proofs.YtoofoicocfnfoaaDoor.PL
namespace Go.Proofs.YtoofoicocfnfoaaDoor.Pure
open Go Go.RowKit Go.Proofs.YtoofoicocfnfoaaDoorW.PrintWords Go.Proofs.YtoofoicocfnfoaaDoorW.PrintLast Go.Proofs.YtoofoicocfnfoaaDoorW.PrintMore Go.Proofs.YtoofoicocfnfoaaDoor.Pr Go.Proofs.YtoofoicocfnfoaaDoor.Opn Go.Proofs.YtoofoicocfnfoaaDoor.X Go.Proofs.YtoofoicocfnfoaaDoor.PL Go.Proofs.YtoofoicocfnfoaaDoor.TX
theorem again_ev (s : ByteArray) (hs : s.size ≤ 65536) : Ev (fun k => spilelaw16_DensityBack.j1 k s) true := by
  obtain ⟨r, r1, _, r3⟩ := parse_both s hs
  refine Ev.step (fun k => spilelaw16_DensityBack.j1.eq_2 ..) (evb r1 ?_)
  cases hrun : run lineL (lin [] s.data.toList).2 (lin [] s.data.toList).1 [] with
  | mk o st =>
    rw [hrun] at r3
    cases st with
    | some i =>
      rw [show r = ([], (i : Int), 3) from r3]
      exact evn (show ¬ (3 : Int) = 0 by decide) (evr (by simp))
    | none =>
      by_cases g : PL.Good o
      · rw [r3.1 g]
        obtain ⟨p, p1, _, p3, _⟩ := print_both o (by have := g.2.1; omega)
        rw [p3 g] at p1
        obtain ⟨xs, g1, g2⟩ := run_again line_again _ _ s.data.toList [] o rfl hrun
        rw [List.nil_append] at g1
        refine evp rfl (evb p1 (evp rfl (evr ?_)))
        rw [g1, g2, ba_data]
        simp
      · obtain ⟨c, hc, e⟩ := r3.2 g
        rw [e]
        exact evn hc (evr (by simp))
theorem DensityBack : densityBackPure := by
  intro l s hl hs
  refine Ev.rounds ?_
  have hn := len_le hl.1
  obtain ⟨t, hf⟩ := few_ev l
  have haw : Ev (fun _ : Nat => spilelaw16_awake.f) true := Ev.now _
  refine evb haw (evp rfl (evb (evc (fun _ => rfl) hf) ?_))
  cases t with
  | false => exact evn (by simp) (Ev.step (fun k => spilelaw16_DensityBack.j0.eq_2 ..) (evp rfl (Ev.now _)))
  | true =>
    refine evp rfl ?_
    by_cases c : (s.size : Int) > 1000
    · rw [decide_eq_true c]
      exact Ev.step (fun k => spilelaw16_DensityBack.j0.eq_2 ..) (evp rfl (Ev.now _))
    · rw [decide_eq_false c]
      have again := again_ev s (by omega)
      obtain ⟨p, p1, _, p3, p4⟩ := print_both l hn
      refine Ev.step (fun k => spilelaw16_DensityBack.j0.eq_2 ..) (evn (by simp) (evb p1 ?_))
      by_cases hr : PL.Good l
      · rw [p3 hr]
        have hrow := good_rows hr
        have hlen := printL_len (lineT := lineT) (m := 30) l (fun x hx => lineT_len (hrow x hx))
        obtain ⟨r, r1, _, r3⟩ := parse_both (ba (printL lineT l)) (by rw [ba_size]; have := hr.2.1; omega)
        rw [ba_list, lin_print l (fun x hx => lineT_no (hrow x hx)), run_print l [] (fun x hx => line_back (hrow x hx)), List.nil_append] at r3
        rw [r3.1 hr] at r1
        exact evp rfl (evb r1 (evp rfl (evp rfl (evb (equal_self l hn) (evp rfl again)))))
      · rw [p4 hr]
        exact evn (by decide) (evp (by rw [ba_toList]) again)
end Go.Proofs.YtoofoicocfnfoaaDoor.Pure
namespace Go.Proofs.YtoofoicocfnfoaaDoor.X
open Go
variable {H : Type} {enc : TypeId × Value → H}
theorem wrap_shaped {a : Assume} {C : Checked} {os : Os} {f : FuncId} {fn : Func} {s : ChangeSpec} {conds : List PathCond} {apart fresh handsOn again : Bool} {X : World → Array Value → Prop}
    (hX : ∀ (w w' : World) (args : Array Value), w.heap = w'.heap → X w args → X w' args)
    (own : ownKnob C.prog.godebug = none) (started : os.Started) (noInit : C.prog.inits.idxOf? f = none) (hfn : C.prog.funcs[f]? = some fn)
    (witness : ∃ (w : World) (tape : Tape) (i : Input), w.os = os ∧ (w.forCall tape i).Shaped C.prog ∧ i.vars = [] ∧ Input.okWide C.prog (w.forCall tape i) .any w.heap.size f i ∧
      ((s.pre enc C.prog fn conds apart (w.forCall tape i).memory i.args ∧ X (w.forCall tape i).memory i.args) ∧ sizedMet enc C.prog fn (OpenSpec.ofChange s) apart (w.forCall tape i).memory i.args) ∧ a.holds C.prog (lone (Frame.enter C.prog f i.args .normal) [] (w.forCall tape i)))
    (walk : ∀ (W : World) (base : Nat) (args : Array Value) (ds gs : List (DataW H)) (before : List MemPlace),
      (∀ (j : Nat) t v, fn.params[j]? = some t → args[j]? = some v → Value.okWide C.prog W .any base t v) →
      DataW.Whole enc C.prog fn.params.toList s.vars apart W args.toList ds gs before → X W args → W.ShapedOpen C.prog →
      Calls C.prog f args W fun e W' => ∃ v, e = .returned v ∧ s.post enc C.prog fn apart fresh handsOn again W args v W') :
    ReturnsInHanded a C os f .any (fun w args => (s.pre enc C.prog fn conds apart w args ∧ X w args) ∧ sizedMet enc C.prog fn (OpenSpec.ofChange s) apart w args) (s.post enc C.prog fn apart fresh handsOn again) := by
  refine returnsInHanded_of_calls own started noInit witness ?_
  intro w tape i _ hsh _ hok hpre _
  obtain ⟨_, _, _, fn', hfn', _, _, _, _, hval⟩ := hok
  obtain rfl : fn' = fn := Option.some.inj (hfn'.symm.trans hfn)
  obtain ⟨⟨⟨ds, gs, before, hw, _⟩, hx⟩, _⟩ := hpre
  refine (walk (w.forCall tape i) w.heap.size i.args ds gs before hval (DataW.Whole.of_heap (w' := w.forCall tape i) (by rfl) hw) (hX _ _ _ (by rfl) hx) hsh).mono fun e W' ⟨v, he, hp⟩ => ?_
  subst he
  exact ChangeSpec.post_blind hp
end Go.Proofs.YtoofoicocfnfoaaDoor.X
namespace Go.Proofs.YtoofoicocfnfoaaDoor.densityBack
open Go Go.ChangeShapes Go.WideShapes Go.ChangeAt Go.RowKit
open Go.ChangeMaps (open_string shut_string)
open Go.Proofs.YtoofoicocfnfoaaDoorW.PrintWords Go.Proofs.YtoofoicocfnfoaaDoor.O Go.Proofs.YtoofoicocfnfoaaDoor.Opn Go.Proofs.YtoofoicocfnfoaaDoor.Pr Go.Proofs.YtoofoicocfnfoaaDoor.X
theorem own : ownKnob Tryd.prog.godebug = none := by kernel_rfl
theorem laidOut : laidOutB Tryd.prog = true := by kernel_rfl
abbrev laidL : List (String × DataW Unit) := [("math/bits.deBruijn32tab", Rows.laid_math_bits_deBruijn32tab), ("math/bits.deBruijn64tab", Rows.laid_math_bits_deBruijn64tab), ("internal/strconv.uint64pow10", Rows.laid_internal_strconv_uint64pow10), ("unicode/utf8.acceptRanges", Rows.laid_unicode_utf8_acceptRanges), ("strconv.ErrRange", Rows.laid_strconv_ErrRange), ("strconv.ErrSyntax", Rows.laid_strconv_ErrSyntax), ("unicode/utf8.first", Rows.laid_unicode_utf8_first)]
set_option maxRecDepth 100000 in
theorem lifted (os : Os) (started : os.Started) (H : Type) (enc : TypeId × Value → H) :
    ReturnsInHanded {} Tryd.checked os 9 .any (fun w args => (Rows.densityBackSpec.pre enc Tryd.prog Tryd.f9 [] false w args ∧ laidMetH Tryd.prog laidL w) ∧ sizedMet enc Tryd.prog Tryd.f9 (OpenSpec.ofChange Rows.densityBackSpec) false w args)
      (Rows.densityBackSpec.post enc Tryd.prog Tryd.f9 false true false false) := by
  refine wrap_shaped (C := Tryd.checked) (X := (fun w _ => laidMetH Tryd.prog laidL w)) (fun _ _ _ hh h => h.of_heap hh) own started (by kernel_rfl) Tryd.func9
    (ChangeSpec.witness_shaped (enc := enc) (C := Tryd.checked) (os := os) (X := (fun w _ => laidMetH Tryd.prog laidL w)) false (World.laidAll Tryd.prog os laidL) #[.slice none 0 0, .string ByteArray.empty] 8 (World.laidAll_os _ _ _) (World.shaped_of_ZipB (by kernel_rfl) (by kernel_rfl)) (by kernel_rfl) (by kernel_rfl) (by kernel_rfl) (by rw [MakeChecks.laidMetH_plain _ _ _ (by kernel_rfl)]; exact laidMet_laidAll _ (by kernel_rfl) (by kernel_rfl))) ?_
  intro W base args ds gs before hval0 hW hL hsh
  have hval : ∀ (j : Nat) t v, Tryd.f9.params[j]? = some t → args[j]? = some v → Value.okWide Tryd.prog W .any base t v := hval0
  have hW' := hW
  obtain ⟨p, q, hA0, hV, rfl, hfz, hnd⟩ := hW
  have hA : DataW.TrodAll enc Tryd.prog W 0 (fun _ => true) true Tryd.f9.params.toList args.toList ds p := hA0
  rw [Tryd.params9] at hA hval
  obtain ⟨v0, vs0, d0, ds0, p0, q0, hargs, rfl, rfl, h0, r0⟩ := trodAll_cons hA
  obtain ⟨v1, vs1, d1, ds1, p1, q1, rfl, rfl, rfl, h1, r1⟩ := trodAll_cons r0
  obtain ⟨rfl, rfl, rfl⟩ := trodAll_nil r1
  obtain rfl : args = #[v0, v1] := by cases args; simp_all
  obtain ⟨rfl, rfl⟩ := trodVars_none hV
  obtain ⟨a0_, len0_, cap0_, rfl⟩ := okWide_slice Tryd.underlying22 (hval 0 22 v0 rfl rfl)
  have k0 := h0
  have lt0 : ∀ x ∈ p0, x.block < W.heap.size := by obtain ⟨m, hm⟩ := k0; exact DataW.trod_lt m _ _ _ hm
  obtain ⟨l0, K0, ok0⟩ : ∃ x, (Kd.slice 30 k30).K W x [.slice a0_ len0_ cap0_] ∧ (x.length ≤ maxLen ∧ ∀ x0_, x0_ ∈ x → ok30 x0_) := by
    obtain ⟨fuel, hf⟩ := h0
    exact opens22.2 _ _ _ _ _ _ _ _ _ hf
  obtain ⟨A0, c0, e0, g0, hr0⟩ := K0
  simp only [List.cons.injEq, Value.slice.injEq, and_true] at e0
  obtain ⟨rfl, rfl, rfl⟩ := e0
  obtain ⟨a1, rfl, rfl, rfl, y1⟩ := open_string Tryd.underlying9 (hval 1 9 v1 rfl rfl) h1
  clear hA0 hval0
  obtain ⟨k, hp⟩ := Pure.DensityBack l0 a1 ok0 y1
  have hG : GI W := GI.of_laid laidL (by simp [laidL]) (by simp [laidL]) (by simp [laidL]) hL hsh
  refine (spilelaw16_DensityBack.calls k _ _ l0 a1 true W hr0 g0 hG rfl hp).mono fun e W' ⟨he, bel⟩ => ?_
  subst he
  exact ⟨_, rfl, _, _, _, [], _, [], hW', trodAll_mk1 (shut_bool Tryd.underlying4 _), (trodAll_cons_mk (Below.trod laidOut (by kernel_rfl) (of_decide_eq_true (by kernel_rfl)) k0 bel lt0) (trodAll_cons_mk (shut_string Tryd.underlying9 y1) trodAll_mk0)), rfl, bel.frame _, fun h => by cases h⟩
theorem holds : Rows.DensityBackSaid :=
  OpenClaim.holds_of_wide 9 Tryd.f9 rfl rfl rfl rfl rfl rfl rfl ⟨rfl, rfl, rfl, rfl, rfl⟩ rfl rfl rfl rfl rfl (by kernel_rfl) Tryd.func9 (by kernel_rfl)
    (of_decide_eq_true (by kernel_rfl)) (by unfold Func.isWrapper; first | (rw [if_pos (by decide +kernel)]; kernel_rfl) | (rw [if_neg (by decide +kernel)]; exact ⟨rfl, rfl⟩))
    (fun os started H enc _ => lifted os started H enc)
theorem card : Rows.DensityBackCardSaid :=
  Claim7.holds_tied_plain_at .later [] [.data, .data, .data, .data, .sentinel, .sentinel, .pinned] true (true, "d9fa5d4542b48e79648329d3495f6539d36b662583432034243887fb958e9878") true
    holds (fun _ h => by cases h) (by kernel_rfl) (fun _ h => by cases h) densityBack_row_tie rfl ⟨rfl, rfl⟩ (by kernel_rfl) rfl
    (fun f fn hf hfn => by
      obtain rfl : f = 9 := Option.some.inj ((show Tryd.prog.funcNamed "spile/spilelaw16.DensityBack" = some 9 by kernel_rfl).symm.trans hf) |>.symm
      obtain rfl : fn = Tryd.f9 := (Option.some.inj (Tryd.func9.symm.trans hfn)).symm
      exact ⟨by kernel_rfl, fun j t ht => by
        rw [Tryd.params9] at ht
        have hm : t ∈ [22, 9] := by simpa using Array.mem_of_getElem? ht
        have hall : ([22, 9].all fun u => !Tryd.prog.wantsStandIn u) = true := by kernel_rfl
        exact (show Tryd.prog.wantsStandIn t = false by simpa using List.all_eq_true.1 hall t hm)⟩)
    (by kernel_rfl)
end Go.Proofs.YtoofoicocfnfoaaDoor.densityBack
namespace Go.Proofs.YtoofoicocfnfoaaDoor
/-- The card, under a short name, for the claim. -/
theorem densityBack_holds : Rows.DensityBackCardSaid := densityBack.card
#print axioms densityBack_holds
end Go.Proofs.YtoofoicocfnfoaaDoor
