/-
The law TariffNear returns true for every input that can be read as data, and leaves its arguments as they were: the row, and the card that ties the listed variables to the program's text.
No condition of its own beyond those that the given row prints.
-/
import Derived.Shelf.Spec.BitsCarry
import Derived.Laws.MathBits
import Derived.HandedShaped
import Derived.Handed
import Derived.Test.YtholbmidciapdaaGreatDoorCards
import Derived.Test.YtholbmidciapdaaGreatDoorTie
import Derived.ProofKit
import Derived.OpenShut
import Derived.ShutString
import Derived.ChangeOld
import Derived.SizedLaws
import Derived.LaidMore
import Derived.Lay
import Derived.MakeChecks
import Derived.SevenTiedAt
import Derived.LaidSub
import Derived.LaidOnce
import Derived.Stop.Joined
import Derived.Stop.LaidErr
import Derived.Test.YtholbmidciapdaaGreatDoorTariffNearD
set_option linter.unusedVariables false
set_option linter.unusedSimpArgs false
namespace Go.Proofs.YtholbmidciapdaaGreatDoor.Pr
open Go.RowKit Go.Proofs.YtholbmidciapdaaGreatDoorW.PrintWords Go.Proofs.YtholbmidciapdaaGreatDoorW.PrintLast Go.Proofs.YtholbmidciapdaaGreatDoorW.PrintMore Go.Proofs.YtholbmidciapdaaGreatDoor.X
attribute [local go_sem] max2_int min2_int max_two min_two max_three min_three max_four min_four   -- for this text's walks alone
set_option linter.unusedVariables false
set_option linter.unusedSimpArgs false
def tariff_Parse.wordsB : List ByteArray := wordsL.map fun z => ⟨z.toArray⟩
def tariff_Parse.word (k : Nat) (x : ByteArray × Bool) : Option (Option Int) := (strings_CutPrefix.f x.1 ⟨#[114, 111, 117, 110, 100, 105, 110, 103, 32]⟩).bind fun c => (slices_Index_string_string.f k tariff_Parse.wordsB c.1).bind fun r => if c.2 = true ∧ 1 ≤ r ∧ x.2 = true then some (some r) else some none
def tariff_Parse.rate (k : Nat) (x : ByteArray × Bool) : Option (Option S26) := (tariff_rate.f k x.1).bind fun c => if c.2.2.2 = true ∧ x.2 = true then some (some ⟨c.1, c.2.1, c.2.2.1⟩) else some none
def tariff_Parse.go (k : Nat) : List (ByteArray × Bool) → Nat → Int → List S26 → Option (Int × List S26 × Int × Int)
 | [], n, R, acc => if n = 0 then some (0, [], 0, 3) else (tariff_right.f k R acc).bind fun c => if c = true then some (R, acc, -1, 0) else some (0, [], -1, 1)
 | x :: r, n, R, acc => if n < 4294967296 ∧ acc.length < 4294967296 then (if n = 0 then (tariff_Parse.word k x).bind fun y => match y with
   | none => some (0, [], 0, 3)
   | some R' => tariff_Parse.go k r 1 R' acc
  else (tariff_Parse.rate k x).bind fun y => match y with
   | none => some (0, [], (n : Int), 3)
   | some g => tariff_Parse.go k r (n + 1) R (acc ++ [g])) else none
def tariff_Parse.f (k : Nat) (a0 : ByteArray) : Option (Int × List S26 × Int × Int) := if (a0.size : Int) > 4096 then some (0, [], -1, 8) else tariff_Parse.go k (lns a0) 0 0 []
section
attribute [local go_sem] Oper.semAt_some
/-- The five boxes: the result's three, the tariff, the line's number. -/
def tariff_Parse.Five (b : Nat) (W : World) (n R : Int) (v : Value) : Prop :=
 W.heap[b]? = some (.cells #[.int .i64 0, .slice none 0 0] 24 (0, 0)) ∧ W.heap[b + 1]? = some (.cells #[.int .i64 0] 3 (0, 0)) ∧ W.heap[b + 2]? = some (.cells #[.int .i64 0] 29 (0, 0)) ∧
 W.heap[b + 3]? = some (.cells #[.int .i64 R, v] 24 (0, 0)) ∧ W.heap[b + 4]? = some (.cells #[.int .i64 n] 3 (0, 0))
theorem tariff_Parse.Five.move {b : Nat} {W W' : World} {n R : Int} {v : Value} (h : tariff_Parse.Five b W n R v) (hm : ∀ k, k < b + 5 → b ≤ k → k < W.heap.size → W'.heap[k]? = W.heap[k]?) : tariff_Parse.Five b W' n R v := by
 obtain ⟨h0, h1, h2, h3, h4⟩ := h
 exact ⟨(hm _ (by omega) (by omega) (blk_lt h0)).trans h0, (hm _ (by omega) (by omega) (blk_lt h1)).trans h1, (hm _ (by omega) (by omega) (blk_lt h2)).trans h2, (hm _ (by omega) (by omega) (blk_lt h3)).trans h3, (hm _ (by omega) (by omega) (blk_lt h4)).trans h4⟩
theorem tariff_Parse.Five.below {b : Nat} {W W' : World} {n R : Int} {v : Value} (h : tariff_Parse.Five b W n R v) (hb : Below W.heap.size W W') : tariff_Parse.Five b W' n R v := h.move (fun k _ _ hk => hb.block k hk)
theorem tariff_Parse.Five.grown {b : Nat} {W W' : World} {n R : Int} {v : Value} {row : Option Nat} (h : tariff_Parse.Five b W n R v) (hg : W.grownBy W' row) (hr : ∀ k, row = some k → k < b ∨ b + 5 ≤ k) : tariff_Parse.Five b W' n R v :=
 h.move (fun k h1 h2 hk => hg.block k hk (fun e => by have := hr k e.symm; omega))
/-- What a return leaves in the result's three boxes. -/
def tariff_Parse.Three (b : Nat) (W : World) (R : Int) (v : Value) (c e : Int) : Prop :=
 W.heap[b]? = some (.cells #[.int .i64 R, v] 24 (0, 0)) ∧ W.heap[b + 1]? = some (.cells #[.int .i64 c] 3 (0, 0)) ∧ W.heap[b + 2]? = some (.cells #[.int .i64 e] 29 (0, 0))
theorem tariff_Parse.Three.move {b : Nat} {W W' : World} {c R e : Int} {v : Value} (h : tariff_Parse.Three b W R v c e) (hm : ∀ k, k < b + 5 → b ≤ k → k < W.heap.size → W'.heap[k]? = W.heap[k]?) : tariff_Parse.Three b W' R v c e := by
 obtain ⟨h0, h1, h2⟩ := h
 exact ⟨(hm _ (by omega) (by omega) (blk_lt h0)).trans h0, (hm _ (by omega) (by omega) (blk_lt h1)).trans h1, (hm _ (by omega) (by omega) (blk_lt h2)).trans h2⟩
theorem tariff_Parse.Three.grown {b : Nat} {W W' : World} {c R e : Int} {v : Value} {row : Option Nat} (h : tariff_Parse.Three b W R v c e) (hg : W.grownBy W' row) (hr : ∀ k, row = some k → k < b ∨ b + 5 ≤ k) : tariff_Parse.Three b W' R v c e :=
 h.move (fun k h1 h2 hk => hg.block k hk (fun e => by have := hr k e.symm; omega))
/-- The three boxes after the stores of a return. -/
theorem tariff_Parse.Five.put {b : Nat} {W : World} {n R : Int} {v : Value} (h : tariff_Parse.Five b W n R v) (R' : Int) (v' : Value) (c e : Int) :
  tariff_Parse.Three b ((((W.setCell ⟨b, 0, none⟩ (.int .i64 R')).setCell ⟨b, 1, none⟩ v').setCell ⟨b + 1, 0, none⟩ (.int .i64 c)).setCell ⟨b + 1 + 1, 0, none⟩ (.int .i64 e)) R' v' c e := by
 obtain ⟨h0, h1, h2, h3, h4⟩ := h
 refine ⟨?_, ?_, ?_⟩
 ·
  exact blk_far (blk_far (blk_put (cs := #[.int .i64 R', .slice none 0 0]) (blk_put h0 0 _ rfl) 1 _ rfl) (by show b ≠ b + 1; omega) _) (by show b ≠ b + 1 + 1; omega) _
 ·
  exact blk_far (blk_put (blk_far (blk_far h1 (by show b + 1 ≠ b; omega) _) (by show b + 1 ≠ b; omega) _) 0 _ rfl) (by show b + 1 ≠ b + 1 + 1; omega) _
 ·
  exact blk_put (blk_far (blk_far (blk_far h2 (by show b + 2 ≠ b; omega) _) (by show b + 2 ≠ b; omega) _) (by show b + 2 ≠ b + 1; omega) _) 0 _ rfl
theorem tariff_Parse.put_far {b k : Nat} {W : World} (R' : Int) (v' : Value) (c e : Int) (hk : k < b ∨ b + 3 ≤ k) :
  ((((W.setCell ⟨b, 0, none⟩ (.int .i64 R')).setCell ⟨b, 1, none⟩ v').setCell ⟨b + 1, 0, none⟩ (.int .i64 c)).setCell ⟨b + 1 + 1, 0, none⟩ (.int .i64 e)).heap[k]? = W.heap[k]? :=
 (Below.heap_setCell _ _ _ k (by show k ≠ b + 1 + 1; omega)).trans ((Below.heap_setCell _ _ _ k (by show k ≠ b + 1; omega)).trans ((Below.heap_setCell _ _ _ k (by show k ≠ b; omega)).trans (Below.heap_setCell _ _ _ k (by show k ≠ b; omega))))
theorem tariff_Parse.put_below {b : Nat} {w W : World} (R' : Int) (v' : Value) (c e : Int) (hb : w.heap.size = b) (h : Below b w W) :
  Below b w ((((W.setCell ⟨b, 0, none⟩ (.int .i64 R')).setCell ⟨b, 1, none⟩ v').setCell ⟨b + 1, 0, none⟩ (.int .i64 c)).setCell ⟨b + 1 + 1, 0, none⟩ (.int .i64 e)) :=
 (((h.setCell (p := ⟨b, 0, none⟩) (Nat.le_refl _) _).setCell (p := ⟨b, 1, none⟩) (Nat.le_refl _) _).setCell (p := ⟨b + 1, 0, none⟩) (by show b ≤ b + 1; omega) _).setCell (p := ⟨b + 1 + 1, 0, none⟩) (by show b ≤ b + 1 + 1; omega) _
/-- What stands between two rounds. -/
def tariff_Parse.I (k : Nat) (a0 : ByteArray) (r : Int × List S26 × Int × Int) (w : World) (pre : List (ByteArray × Bool)) (W : World) : Prop :=
 ∃ (n : Nat) (R : Int) (acc : List S26) (v : Value) (rest : List (ByteArray × Bool)), lns a0 = pre ++ rest ∧ tariff_Parse.go k rest n R acc = some r ∧ tariff_Parse.Five w.heap.size W (n : Int) R v ∧
  W.ownsRow (w.heap.size + 6) 26 3 v acc.length (flat26 acc) ∧ Below w.heap.size w W ∧ w.heap.size + 6 ≤ W.heap.size
def tariff_Parse.Ix (r : Int × List S26 × Int × Int) (w : World) (pre : List (ByteArray × Bool)) (W : World) : Prop :=
 r.1 = 0 ∧ r.2.1 = [] ∧ tariff_Parse.Three w.heap.size W 0 (.slice none 0 0) r.2.2.1 r.2.2.2 ∧ Below w.heap.size w W
theorem own_turn {W W' : World} {row : Option Nat} {bt B : Nat} {v : Value} {n : Nat} {xs : List Value} (h : W.ownsRow B 26 3 v n xs) (hg : W.grownBy W' row) (hr : ∀ r, row = some r → r = bt ∨ (B ≤ r ∧ ∃ o : Obj, W.heap[r]? = some o ∧ o.isCells = false)) (h1 : bt < B) : W'.ownsRow B 26 3 v n xs := by
 refine own_other h hg ?_
 rcases h.2 with ⟨rfl, _⟩ | ⟨g, cap, cur, rfl, hb, hh, _⟩
 ·
  exact .inl rfl
 ·
  refine .inr fun e => ?_
  rcases hr g e.symm with h3 | ⟨_, o, ho, hc⟩
  ·
   omega
  ·
   rw [hh] at ho; cases ho; cases hc
theorem keeps_below {B : Nat} {W W1 : World} (h : Below W.heap.size W W1) : KeepsFrom B W W1 := ⟨h.size, fun i o _ hi _ => (h.block i (Array.getElem?_eq_some_iff.1 hi).1).trans hi⟩
theorem keeps_low {B : Nat} {W W1 : World} (hs : W.heap.size ≤ W1.heap.size) (h : ∀ k, B ≤ k → k < W.heap.size → W1.heap[k]? = W.heap[k]?) : KeepsFrom B W W1 := ⟨hs, fun i o hk hi _ => (h i hk (Array.getElem?_eq_some_iff.1 hi).1).trans hi⟩
theorem tariff_Parse.failed {w W : World} {B : Nat} {n R : Int} {v : Value} (c : Int) (xs : List (ByteArray × Bool)) (hB : Below w.heap.size w W) (hBw : w.heap.size + 6 ≤ B) (y : tariff_Parse.Five w.heap.size W n R v) :
  KeepsFrom B W ((((W.setCell ⟨w.heap.size, 0, none⟩ (.int .i64 0)).setCell ⟨w.heap.size, 1, none⟩ (.slice none 0 0)).setCell ⟨w.heap.size + 1, 0, none⟩ (.int .i64 c)).setCell ⟨w.heap.size + 1 + 1, 0, none⟩ (.int .i64 3)) ∧
  tariff_Parse.Ix (0, [], c, 3) w xs ((((W.setCell ⟨w.heap.size, 0, none⟩ (.int .i64 0)).setCell ⟨w.heap.size, 1, none⟩ (.slice none 0 0)).setCell ⟨w.heap.size + 1, 0, none⟩ (.int .i64 c)).setCell ⟨w.heap.size + 1 + 1, 0, none⟩ (.int .i64 3)) :=
 ⟨keeps_low (by simp) (fun k hk _ => tariff_Parse.put_far 0 _ c 3 (by omega)), rfl, rfl, y.put 0 _ c 3, tariff_Parse.put_below 0 _ c 3 rfl hB⟩
theorem tariff_Parse.failedD {w W : World} {B : Nat} {n R : Int} {v : Value} (c : Int) (xs : List (ByteArray × Bool)) (hB : Below w.heap.size w W) (hBw : w.heap.size + 6 ≤ B) (y : tariff_Parse.Five w.heap.size W n R v) :
  KeepsFrom B W (((((W.setCell ⟨w.heap.size, 0, none⟩ (.int .i64 0)).setCell ⟨w.heap.size, 1, none⟩ (.slice none 0 0)).setCell ⟨w.heap.size + 1, 0, none⟩ (.int .i64 c)).setCell ⟨w.heap.size + 1 + 1, 0, none⟩ (.int .i64 3)).drew) ∧
  tariff_Parse.Ix (0, [], c, 3) w xs (((((W.setCell ⟨w.heap.size, 0, none⟩ (.int .i64 0)).setCell ⟨w.heap.size, 1, none⟩ (.slice none 0 0)).setCell ⟨w.heap.size + 1, 0, none⟩ (.int .i64 c)).setCell ⟨w.heap.size + 1 + 1, 0, none⟩ (.int .i64 3)).drew) := ⟨⟨(tariff_Parse.failed c xs hB hBw y).1.1, (tariff_Parse.failed c xs hB hBw y).1.2⟩, rfl, rfl, (tariff_Parse.failed c xs hB hBw y).2.2.2.1, (tariff_Parse.failed c xs hB hBw y).2.2.2.2.drew⟩
theorem flat26_snoc (acc : List S26) (g : S26) : flat26 (acc ++ [g]) = flat26 acc ++ [.int .i64 g.f0, .int .i64 g.f1, .int .i64 g.f2] := by simp [flat26]
theorem tariff_Parse.went {k : Nat} {a0 : ByteArray} {r : Int × List S26 × Int × Int} {w W w3 w4 : World} {B n : Nat} {R : Int} {acc : List S26} {v v' : Value} {g : S26} {pre more : List (ByteArray × Bool)} {x : ByteArray × Bool}
  (hl : lns a0 = (pre ++ [x]) ++ more) (hq : tariff_Parse.go k more (n + 1) R (acc ++ [g]) = some r) (hB : Below w.heap.size w W) (h3 : Below W.heap.size W w3) (hBw : w.heap.size + 6 ≤ B)
  (y : tariff_Parse.Five w.heap.size W (n : Int) R v) (ho : W.ownsRow (w.heap.size + 6) 26 3 v acc.length (flat26 acc)) (hbt : w.heap.size + 6 ≤ W.heap.size)
  (hown' : w4.ownsRow (w.heap.size + 6) 26 3 v' (acc.length + 1) (flat26 acc ++ [.int .i64 g.f0, .int .i64 g.f1, .int .i64 g.f2])) (hgrow : w3.grownBy w4 v.ownBlock) :
  KeepsFrom B W ((w4.setCell ⟨w.heap.size + 1 + 1 + 1, 1, none⟩ v').setCell ⟨w.heap.size + 1 + 1 + 1 + 1, 0, none⟩ (.int .i64 ((n : Int) + 1))) ∧
  ((w4.setCell ⟨w.heap.size + 1 + 1 + 1, 1, none⟩ v').setCell ⟨w.heap.size + 1 + 1 + 1 + 1, 0, none⟩ (.int .i64 ((n : Int) + 1))).heap[w.heap.size + 5]? = W.heap[w.heap.size + 5]? ∧
  tariff_Parse.I k a0 r w (pre ++ [x]) ((w4.setCell ⟨w.heap.size + 1 + 1 + 1, 1, none⟩ v').setCell ⟨w.heap.size + 1 + 1 + 1 + 1, 0, none⟩ (.int .i64 ((n : Int) + 1))) := by
 have ho3 := pw_own_below ho h3
 have hrow : ∀ j, v.ownBlock = some j → w.heap.size + 6 ≤ j := fun j e => own_base ho3 j e
 have y4 : tariff_Parse.Five w.heap.size w4 (n : Int) R v := (y.below h3).grown hgrow (fun j e => by have := hrow j e; omega)
 have hw3 : Below w.heap.size w w3 := below_step hB h3
 have hw4 : Below w.heap.size w w4 := hw3.grown hgrow hw3.size (fun j e => by have := hrow j e; omega)
 have far : ∀ j, j ≠ w.heap.size + 3 → j ≠ w.heap.size + 4 → ((w4.setCell ⟨w.heap.size + 1 + 1 + 1, 1, none⟩ v').setCell ⟨w.heap.size + 1 + 1 + 1 + 1, 0, none⟩ (.int .i64 ((n : Int) + 1))).heap[j]? = w4.heap[j]? := fun j h1 h2 =>
  (Below.heap_setCell _ _ _ j (by show j ≠ w.heap.size + 1 + 1 + 1 + 1; omega)).trans (Below.heap_setCell _ _ _ j (by show j ≠ w.heap.size + 1 + 1 + 1; omega))
 have no' : ∀ b, b < w.heap.size + 6 → some b ≠ v'.ownBlock := fun b hb e => by have := own_base hown' b e.symm; omega
 obtain ⟨z0, z1, z2, z3, z4⟩ := y4
 refine ⟨⟨?_, fun i o hk hi hc => ?_⟩, ?_, n + 1, R, acc ++ [g], v', more, hl, hq, ⟨?_, ?_, ?_, ?_, ?_⟩, ?_, ?_, ?_⟩
 ·
  have e1 := h3.size
  have e2 := hgrow.size
  simpa using Nat.le_trans e1 e2
 ·
  have hi3 := (h3.block i (blk_lt hi)).trans hi
  refine (far i (by omega) (by omega)).trans ((hgrow.block i (blk_lt hi3) (fun e => ?_)).trans hi3)
  obtain ⟨cells, hcells⟩ := own_typed ho3 i e.symm
  rw [hi3] at hcells
  cases hcells
  cases hc
 ·
  have h5 : w.heap.size + 5 < w3.heap.size := Nat.lt_of_lt_of_le (by omega) h3.size
  refine (far _ (by omega) (by omega)).trans ((hgrow.block _ h5 (fun e => ?_)).trans (h3.block _ (by omega)))
  have := hrow _ e.symm
  omega
 ·
  exact (far _ (by omega) (by omega)).trans z0
 ·
  exact (far _ (by omega) (by omega)).trans z1
 ·
  exact (far _ (by omega) (by omega)).trans z2
 ·
  exact blk_far (blk_put z3 1 _ rfl) (by show w.heap.size + 3 ≠ w.heap.size + 1 + 1 + 1 + 1; omega) _
 ·
  exact blk_put (blk_far z4 (by show w.heap.size + 4 ≠ w.heap.size + 1 + 1 + 1; omega) _) 0 _ rfl
 ·
  rw [flat26_snoc, List.length_append]
  exact own_setCell (own_setCell hown' (no' _ (by show w.heap.size + 1 + 1 + 1 < _; omega)) _) (no' _ (by show w.heap.size + 1 + 1 + 1 + 1 < _; omega)) _
 ·
  exact (hw4.setCell (p := ⟨w.heap.size + 1 + 1 + 1, 1, none⟩) (by show w.heap.size ≤ w.heap.size + 1 + 1 + 1; omega) _).setCell (p := ⟨w.heap.size + 1 + 1 + 1 + 1, 0, none⟩) (by show w.heap.size ≤ w.heap.size + 1 + 1 + 1 + 1; omega) _
 ·
  have e1 := h3.size
  have e2 := hgrow.size
  have : w.heap.size + 6 ≤ w4.heap.size := by omega
  simpa using this
theorem words_C {w : World} (h : Words w) : Kd.C Kd.string w (some ⟨0, 0, none⟩) tariff_Parse.wordsB.length tariff_Parse.wordsB := by
 refine ⟨rfl, by decide, fun _ => ⟨_, rfl, fun j p hp => ⟨[.string p], rfl, rfl, fun i u hu => ?_⟩⟩⟩
 unfold tariff_Parse.wordsB at hp
 rw [List.getElem?_map] at hp
 obtain ⟨z, hz, rfl⟩ := Option.map_eq_some_iff.1 hp
 have hc := h.cell j z hz
 cases i with
 | zero =>
  obtain rfl : Value.string ⟨z.toArray⟩ = u := by simpa using hu
  rw [Addr.add_lit, Nat.zero_add, Nat.add_zero]
  show w.cell? ⟨0, j * 1, none⟩ = _
  rw [Nat.mul_one]
  exact hc
 | succ i => simp at hu
theorem three_cells (w : World) (a b c : Value) (t : TypeId) : ∀ (j : Nat) (u : Value), [a, b, c][j]? = some u → (w.alloc (.cells #[a, b, c] t)).cell? ((⟨w.heap.size, 0, none⟩ : Addr).add j) = some u := by
 intro j u hj
 rw [Addr.add_lit, Nat.zero_add, World.cell?_alloc_at (w := w) _ _ w.heap.size j rfl]
 simpa using hj
theorem tariff_Parse.results_three {b : Nat} {W : World} {tmps : Array Value} {R c e : Int} {v : Value} (t2 : tmps.getD 2 undef = .pointer (some ⟨b, 0, none⟩)) (t3 : tmps.getD 3 undef = .pointer (some ⟨b + 1, 0, none⟩)) (t4 : tmps.getD 4 undef = .pointer (some ⟨b + 1 + 1, 0, none⟩))
  (h : tariff_Parse.Three b W R v c e) : (results Tryz.f30 tmps).run Tryz.prog W = .ok (.tuple #[.agg #[.int .i64 R, v], .int .i64 c, .int .i64 e]) W := by
 have a3 : ∀ W : World, (isAgg 3).run Tryz.prog W = .ok false W := fun W => by kernel_rfl
 have a29 : ∀ W : World, (isAgg 29).run Tryz.prog W = .ok false W := fun W => by kernel_rfl
 obtain ⟨h0, h1, h2⟩ := h
 have c2 : W.cell? ⟨b + 1, 0, none⟩ = some (.int .i64 c) := (blk_cell h1 0).trans rfl
 have c3 : W.cell? ⟨b + 1 + 1, 0, none⟩ = some (.int .i64 e) := (blk_cell h2 0).trans rfl
 have h1' : tmps[2]?.getD undef = .pointer (some ⟨b, 0, none⟩) := by simpa using t2
 have h2' : tmps[3]?.getD undef = .pointer (some ⟨b + 1, 0, none⟩) := by simpa using t3
 have h3' : tmps[4]?.getD undef = .pointer (some ⟨b + 1 + 1, 0, none⟩) := by simpa using t4
 have l0 := run_loadVar_row (P := Tryz.prog) W b 24 24 #[.int .i64 R, v] (0, 0) _ h0 Tryz.underlying24 rfl (by kernel_rfl)
 have l1 : (loadVar 3 ⟨b + 1, 0, none⟩).run Tryz.prog W = .ok (.int .i64 c) W := by simp [loadVar, a3, c2]
 have l2 : (loadVar 29 ⟨b + 1 + 1, 0, none⟩).run Tryz.prog W = .ok (.int .i64 e) W := by simp [loadVar, a29, c3]
 unfold results
 rw [show Tryz.f30.results = [ResultVar.cell 2 24, ResultVar.cell 3 3, ResultVar.cell 4 29].toArray from rfl, List.mapM_toArray]
 simp only [Sem.run_bind, Sem.run_map]
 simp [List.mapM_cons, h1', h2', h3', asAddr, l0, l1, l2]
theorem tariff_Parse.leave {n : Nat} {w W : World} {D : Nat} {v : Value} {R c e : Int} {tmps : Array Value} {xs : List S26} (hK : W.heap[D]? = some (.deferred (some []))) (hD : w.heap.size + 6 ≤ D)
  (y : tariff_Parse.Three w.heap.size W R v c e) (hB : Below w.heap.size w W) (hrow : W.ownsRow (w.heap.size + 6) 26 3 v xs.length (flat26 xs))
  (t2 : tmps.getD 2 undef = .pointer (some ⟨w.heap.size, 0, none⟩)) (t3 : tmps.getD 3 undef = .pointer (some ⟨w.heap.size + 1, 0, none⟩)) (t4 : tmps.getD 4 undef = .pointer (some ⟨w.heap.size + 1 + 1, 0, none⟩)) :
  LeavesInM Fence.wide n Tryz.prog Tryz.f30 tmps (fun e_ w' => ∃ v1_, e_ = .returned (.tuple #[.agg #[.int .i64 R, v1_], .int .i64 c, .int .i64 e]) ∧ Kd.R k26 26 w' w.heap.size (fun _ => True) v1_ xs ∧ Below w.heap.size w w') [{ target := .collected D, args := #[] }] .returning W := by
 have hg := grownBy_putObj' W D (.deferred none)
 refine ⟨by simp, .inl ⟨_, _, rfl, run_takeDeferred hK, ⟨_, tariff_Parse.results_three t2 t3 t4 (y.grown hg (fun k e => by cases e; omega)), v, rfl, own_R26 (own_weaken (ownsRow_putObj hrow _ hK rfl) (by omega)), ?_⟩⟩⟩
 exact hB.grown hg hB.size (fun k e => by cases e; omega)
set_option maxHeartbeats 8000000 in
set_option maxRecDepth 100000 in
theorem tariff_Parse.calls (k : Nat) (a0 : ByteArray) (r1 : Int) (r2 : List (S26)) (r3 : Int) (r4 : Int) (w : World) (hG : GI w) (h : tariff_Parse.f k a0 = some (r1, r2, r3, r4)) :
  Calls Tryz.prog 30 #[.string a0] w fun e w' => ∃ v1_ : Value, e = .returned (.tuple #[.agg #[.int .i64 r1, v1_], .int .i64 r3, .int .i64 r4]) ∧ Kd.R k26 26 w' w.heap.size (fun _ => True) v1_ r2 ∧ Below w.heap.size w w' := by
 have hu24 := Tryz.underlying24; have hu26 := Tryz.underlying26; have hu22 := Tryz.underlying22; unfold tariff_Parse.f at h; refine (callsIn_wide (n := 5)).1 ?_; refine callsIn_of_wp_marks Tryz.func30 rfl trivial ?_ rfl; simp only [Tryz.ntmps30, List.size_toArray, List.length_cons, List.length_nil, Nat.reduceAdd, Nat.reduceSub, Array.replicate_succ, Array.replicate_zero, List.push_toArray, List.append_toArray, List.nil_append, List.cons_append]; by_cases hbig : (a0.size : Int) > 4096
 ·
  rw [if_pos hbig] at h; cases h; gi_wp2
  refine ⟨_, tariff_Parse.results_three (b := w.heap.size) rfl rfl rfl ⟨blk_alloc (blk_alloc (blk_new w _) _) _, ?_, ?_⟩, ⟨_, rfl, Kd.R_nil _ _ _ _ _, below_alloc (below_alloc (below_alloc (Below.refl _ _) _) _) _⟩⟩
  · have := blk_alloc (blk_new (w.alloc (.cells #[.int .i64 0, .slice none 0 0] 24)) (.cells #[.int .i64 (-1)] 3)) (.cells #[.int .i64 8] 29); simpa only [World.size_alloc] using this
  · have := blk_new ((w.alloc (.cells #[.int .i64 0, .slice none 0 0] 24)).alloc (.cells #[.int .i64 (-1)] 3)) (.cells #[.int .i64 8] 29); simpa only [World.size_alloc] using this
 ·
  rw [if_neg hbig] at h; obtain ⟨W0, hW0⟩ : ∃ W0, W0 = (((((w.alloc (.cells #[.int .i64 0, .slice none 0 0] 24)).alloc (.cells #[.int .i64 0] 3)).alloc (.cells #[.int .i64 0] 29)).alloc (.cells #[.int .i64 0, .slice none 0 0] 24)).alloc (.cells #[.int .i64 0] 3)).alloc (.cells #[.string a0] 9) := ⟨_, rfl⟩; have hsz : W0.heap.size = w.heap.size + 6 := by rw [hW0]; simp [World.size_alloc]
  have hB0 : Below w.heap.size w W0 := by rw [hW0]; exact below_alloc (below_alloc (below_alloc (below_alloc (below_alloc (below_alloc (Below.refl _ _) _) _) _) _) _) _
  have x5 : Boxed W0 (w.heap.size + 5) 9 (.string a0) := by
   rw [hW0]; have := Boxed.new (((((w.alloc (.cells #[.int .i64 0, .slice none 0 0] 24)).alloc (.cells #[.int .i64 0] 3)).alloc (.cells #[.int .i64 0] 29)).alloc (.cells #[.int .i64 0, .slice none 0 0] 24)).alloc (.cells #[.int .i64 0] 3)) 9 (.string a0); simpa only [World.size_alloc] using this
  have x0 : tariff_Parse.Five w.heap.size W0 0 0 (.slice none 0 0) := by
   rw [hW0]; refine ⟨?_, ?_, ?_, ?_, ?_⟩
   · exact blk_alloc (blk_alloc (blk_alloc (blk_alloc (blk_alloc (blk_new _ _) _) _) _) _) _
   · have := blk_alloc (blk_alloc (blk_alloc (blk_alloc (blk_new (w.alloc (.cells #[.int .i64 0, .slice none 0 0] 24)) (.cells #[.int .i64 0] 3)) (.cells #[.int .i64 0] 29)) (.cells #[.int .i64 0, .slice none 0 0] 24)) (.cells #[.int .i64 0] 3)) (.cells #[.string a0] 9); simpa only [World.size_alloc] using this
   · have := blk_alloc (blk_alloc (blk_alloc (blk_new ((w.alloc (.cells #[.int .i64 0, .slice none 0 0] 24)).alloc (.cells #[.int .i64 0] 3)) (.cells #[.int .i64 0] 29)) (.cells #[.int .i64 0, .slice none 0 0] 24)) (.cells #[.int .i64 0] 3)) (.cells #[.string a0] 9); simpa only [World.size_alloc] using this
   · have := blk_alloc (blk_alloc (blk_new (((w.alloc (.cells #[.int .i64 0, .slice none 0 0] 24)).alloc (.cells #[.int .i64 0] 3)).alloc (.cells #[.int .i64 0] 29)) (.cells #[.int .i64 0, .slice none 0 0] 24)) (.cells #[.int .i64 0] 3)) (.cells #[.string a0] 9); simpa only [World.size_alloc] using this
   · have := blk_alloc (blk_new ((((w.alloc (.cells #[.int .i64 0, .slice none 0 0] 24)).alloc (.cells #[.int .i64 0] 3)).alloc (.cells #[.int .i64 0] 29)).alloc (.cells #[.int .i64 0, .slice none 0 0] 24)) (.cells #[.int .i64 0] 3)) (.cells #[.string a0] 9); simpa only [World.size_alloc] using this
  gi_wp2_with (refine ⟨trivial, ?_⟩; gi_at_call 57; refine (lines_calls a0 _).mono ?_; rintro e w' ⟨rfl, rfl⟩)
  have hseq := lines_box (w.heap.size + 5) a0 (by omega) W0 x5; try simp only [World.size_alloc]
  rw [← hW0]
  refine wpIn_rangeFunc_box (F := Fence.wide) (n := 5) (b := w.heap.size + 5) rfl (by decide) (gf := 70) (lb := #[.pointer (some ⟨w.heap.size + 5, 0, none⟩)]) rfl trivial (enters_of Tryz.func70 (by kernel_rfl) rfl) hseq (by omega) (Below.refl _ _) (fun _ => rfl)
   (tariff_Parse.I k a0 (r1, r2, r3, r4) w) (tariff_Parse.Ix (r1, r2, r3, r4) w) ?hIG ?hI ?hIx ?h0
   (fun x => { tmps := #[.string a0, undef, .pointer (some ⟨w.heap.size, 0, none⟩), .pointer (some ⟨w.heap.size + 1, 0, none⟩), .pointer (some ⟨w.heap.size + 1 + 1, 0, none⟩), .pointer (some ⟨w.heap.size + 1 + 1 + 1, 0, none⟩), .pointer (some ⟨w.heap.size + 1 + 1 + 1 + 1, 0, none⟩), .string x.1, .bool x.2, undef, undef, undef, undef, .string a0, .int .i64 (a0.size : Int), .bool false, undef, .string a0, .func (.func 70) #[] #[.pointer (some ⟨w.heap.size + 1 + 1 + 1 + 1 + 1, 0, none⟩)], .string x.1, .bool x.2, undef, undef, undef, undef, undef, undef, undef, undef, undef, undef, undef, undef, undef, undef, undef, undef, undef, undef, undef, undef, undef, undef, undef, undef, undef, undef, undef, undef, undef, undef, undef, undef, undef, undef, undef, undef, undef, undef, undef, undef, undef, undef, undef, undef, undef, undef, undef, undef, undef, undef, undef, undef, undef, undef], defers := [] }) ?assign ?body ?done ?stop
  case hIG =>
   rintro pre W ⟨_, _, _, _, _, _, _, _, _, hB, _⟩; exact GI.below hG hB
  case hI =>
   rintro s W W' row ⟨n, R, acc, v, rest, q1, q2, hy, ho, hB, hW5⟩ hg hr; rw [hsz] at hr; exact ⟨n, R, acc, v, rest, q1, q2, hy.grown hg (fun k e => by rcases hr k e with q | q <;> omega), own_turn ho hg hr (by omega), hB.grown hg hB.size (fun k e => by rcases hr k e with q | q <;> omega), Nat.le_trans hW5 hg.size⟩
  case hIx =>
   rintro s W W' row ⟨q1, q2, hy, hB⟩ hg hr; rw [hsz] at hr; exact ⟨q1, q2, hy.grown hg (fun k e => by rcases hr k e with q | q <;> omega), hB.grown hg hB.size (fun k e => by rcases hr k e with q | q <;> omega)⟩
  case h0 => exact ⟨0, 0, [], _, lns a0, rfl, h, x0, World.ownsRow_nil _ _ _ _, hB0, by omega⟩
  case assign =>
   intro l x W K hK; dsimp only [lencs]
   gi_wp2
   exact hK
  case body =>
   rintro l pre x W2 ⟨n, R, acc, v, rest, q1, q2, y, ho, hB, hW5⟩ hpre; obtain ⟨more, hmore⟩ := hpre
   have hrest : rest = x :: more := by
    rw [← hmore, List.append_assoc] at q1; exact (List.append_cancel_left q1).symm
   subst hrest; unfold tariff_Parse.go at q2; by_cases hacc : n < 4294967296 ∧ acc.length < 4294967296
   case neg => rw [if_neg hacc] at q2; cases q2
   rw [if_pos hacc] at q2; have hGW := GI.below hG hB; have y0 := y; obtain ⟨z0, z1, z2, z3, z4⟩ := y; have cn : W2.cell? ⟨w.heap.size + 1 + 1 + 1 + 1, 0, none⟩ = some (.int .i64 (n : Int)) := (blk_cell z4 0).trans rfl; have mixed : Tryz.prog.follows Departure.mixedOrders = true := by kernel_rfl
   obtain ⟨xs, xb⟩ := x; have hl : lns a0 = (pre ++ [(xs, xb)]) ++ more := by rw [q1, List.append_assoc]; rfl
   by_cases hn : n = 0
   ·
    rw [if_pos hn] at q2; subst hn; replace q2 := Option.bind_eq_some_iff.mp q2; obtain ⟨ty, hy, q2⟩ := q2; unfold tariff_Parse.word at hy; replace hy := Option.bind_eq_some_iff.mp hy; obtain ⟨⟨cw, cok⟩, hcut, hy⟩ := hy; replace hy := Option.bind_eq_some_iff.mp hy; obtain ⟨ri, hri, hy⟩ := hy; dsimp only at hcut hri hy
    have key : ∀ w2, Below W2.heap.size W2 w2 → tariff_Parse.Five w.heap.size (w2.setCell ⟨w.heap.size + 1 + 1 + 1, 0, none⟩ (.int .i64 ri)) 0 ri v ∧ KeepsFrom W0.heap.size W2 (w2.setCell ⟨w.heap.size + 1 + 1 + 1, 0, none⟩ (.int .i64 ri)) ∧ Below w.heap.size w (w2.setCell ⟨w.heap.size + 1 + 1 + 1, 0, none⟩ (.int .i64 ri)) ∧
      (w2.setCell ⟨w.heap.size + 1 + 1 + 1, 0, none⟩ (.int .i64 ri)).heap[w.heap.size + 5]? = W2.heap[w.heap.size + 5]? ∧ (w2.setCell ⟨w.heap.size + 1 + 1 + 1, 0, none⟩ (.int .i64 ri)).ownsRow (w.heap.size + 6) 26 3 v acc.length (flat26 acc) ∧ w.heap.size + 6 ≤ (w2.setCell ⟨w.heap.size + 1 + 1 + 1, 0, none⟩ (.int .i64 ri)).heap.size := by
     intro w2 hb12; obtain ⟨u0, u1, u2, u3, u4⟩ := y0.below hb12; have far : ∀ j, j ≠ w.heap.size + 3 → (w2.setCell ⟨w.heap.size + 1 + 1 + 1, 0, none⟩ (.int .i64 ri)).heap[j]? = w2.heap[j]? := fun j h1 => Below.heap_setCell _ _ _ j (by show j ≠ w.heap.size + 1 + 1 + 1; omega)
     refine ⟨⟨(far _ (by omega)).trans u0, (far _ (by omega)).trans u1, (far _ (by omega)).trans u2, blk_put u3 0 _ rfl, (far _ (by omega)).trans u4⟩, (keeps_below hb12).trans (keeps_low (by simp) (fun j hj _ => far j (by omega))),
      (below_step hB hb12).setCell (p := ⟨w.heap.size + 1 + 1 + 1, 0, none⟩) (by show w.heap.size ≤ w.heap.size + 1 + 1 + 1; omega) _, (far _ (by omega)).trans (hb12.block _ (by omega)), own_setCell (pw_own_below ho hb12) (fun e => by have := own_base ho _ e.symm; (have h9 : w.heap.size + 6 ≤ w.heap.size + 1 + 1 + 1 := this); omega) _, ?_⟩
     have := hb12.size; have h9 : w.heap.size + 6 ≤ w2.heap.size := by omega
     simpa using h9
    by_cases hgood : cok = true ∧ 1 ≤ ri ∧ xb = true
    case neg =>
     rw [if_neg hgood] at hy; cases hy; cases q2
     have hwhich : cok = false ∨ (cok = true ∧ ri < 1) ∨ (cok = true ∧ 1 ≤ ri ∧ xb = false) := by
      cases cok <;> cases xb <;> simp_all <;> omega
     rcases hwhich with rfl | ⟨rfl, hri1⟩ | ⟨rfl, hri1, rfl⟩
     ·
      gi_wp2_with (first | (refine ⟨trivial, ?_⟩; gi_at_call 58; refine (CallsIn.inRound l (callsIn_wide.2 (strings_CutPrefix.calls xs _ cw false _ hcut))).mono ?_; rintro e w1 ⟨rfl, hd1⟩; have hb1 := hd1.below; clear hcut) | (refine ⟨trivial, ?_⟩; gi_at_call 59; refine (CallsIn.inRound l (callsIn_wide.2 (slices_Index_string_string.calls k (some ⟨0, 0, none⟩) 5 tariff_Parse.wordsB cw ri w1 (words_C (GI.below hGW hb1).words) (by decide) hri))).mono ?_; rintro e w2 ⟨rfl, hd2⟩; have hb12 := below_step hb1 hd2.below; have yy := y0.below hb12; obtain ⟨u0, u1, u2, u3, u4⟩ := yy; have f00 : w2.frozen? ⟨w.heap.size, 0, none⟩ = false := blk_frozen u0 0; have f01 : w2.frozen? ⟨w.heap.size, 1, none⟩ = false := blk_frozen u0 1; have f1 : w2.frozen? ⟨w.heap.size + 1, 0, none⟩ = false := blk_frozen u1 0; have f2 : w2.frozen? ⟨w.heap.size + 1 + 1, 0, none⟩ = false := blk_frozen u2 0; have d00 : w2.cell? ⟨w.heap.size, 0, none⟩ = some (.int .i64 0) := (blk_cell u0 0).trans rfl; have d01 : w2.cell? ⟨w.heap.size, 1, none⟩ = some (.slice none 0 0) := (blk_cell u0 1).trans rfl; have d1 : w2.cell? ⟨w.heap.size + 1, 0, none⟩ = some (.int .i64 0) := (blk_cell u1 0).trans rfl; have d2 : w2.cell? ⟨w.heap.size + 1 + 1, 0, none⟩ = some (.int .i64 0) := (blk_cell u2 0).trans rfl; have d30 : w2.cell? ⟨w.heap.size + 1 + 1 + 1, 0, none⟩ = some (.int .i64 R) := (blk_cell u3 0).trans rfl; have d31 : w2.cell? ⟨w.heap.size + 1 + 1 + 1, 1, none⟩ = some v := (blk_cell u3 1).trans rfl; have f30 : w2.frozen? ⟨w.heap.size + 1 + 1 + 1, 0, none⟩ = false := blk_frozen u3 0; have f31 : w2.frozen? ⟨w.heap.size + 1 + 1 + 1, 1, none⟩ = false := blk_frozen u3 1; have d4 : w2.cell? ⟨w.heap.size + 1 + 1 + 1 + 1, 0, none⟩ = some (.int .i64 0) := (blk_cell u4 0).trans rfl; have f4 : w2.frozen? ⟨w.heap.size + 1 + 1 + 1 + 1, 0, none⟩ = false := blk_frozen u4 0))
      obtain ⟨k1, k2, k3, k4, k5, k6⟩ := key w2 hb12; exact ⟨k2.trans (tariff_Parse.failed (B := W0.heap.size) 0 [] k3 (by omega) k1).1, (tariff_Parse.failed (B := W0.heap.size) 0 _ k3 (by omega) k1).2⟩
     ·
      have hdec : decide (ri < 1) = true := decide_eq_true hri1; gi_wp2_with (first | (refine ⟨trivial, ?_⟩; gi_at_call 58; refine (CallsIn.inRound l (callsIn_wide.2 (strings_CutPrefix.calls xs _ cw true _ hcut))).mono ?_; rintro e w1 ⟨rfl, hd1⟩; have hb1 := hd1.below; clear hcut) | (refine ⟨trivial, ?_⟩; gi_at_call 59; refine (CallsIn.inRound l (callsIn_wide.2 (slices_Index_string_string.calls k (some ⟨0, 0, none⟩) 5 tariff_Parse.wordsB cw ri w1 (words_C (GI.below hGW hb1).words) (by decide) hri))).mono ?_; rintro e w2 ⟨rfl, hd2⟩; have hb12 := below_step hb1 hd2.below; have yy := y0.below hb12; obtain ⟨u0, u1, u2, u3, u4⟩ := yy; have f00 : w2.frozen? ⟨w.heap.size, 0, none⟩ = false := blk_frozen u0 0; have f01 : w2.frozen? ⟨w.heap.size, 1, none⟩ = false := blk_frozen u0 1; have f1 : w2.frozen? ⟨w.heap.size + 1, 0, none⟩ = false := blk_frozen u1 0; have f2 : w2.frozen? ⟨w.heap.size + 1 + 1, 0, none⟩ = false := blk_frozen u2 0; have d00 : w2.cell? ⟨w.heap.size, 0, none⟩ = some (.int .i64 0) := (blk_cell u0 0).trans rfl; have d01 : w2.cell? ⟨w.heap.size, 1, none⟩ = some (.slice none 0 0) := (blk_cell u0 1).trans rfl; have d1 : w2.cell? ⟨w.heap.size + 1, 0, none⟩ = some (.int .i64 0) := (blk_cell u1 0).trans rfl; have d2 : w2.cell? ⟨w.heap.size + 1 + 1, 0, none⟩ = some (.int .i64 0) := (blk_cell u2 0).trans rfl; have d30 : w2.cell? ⟨w.heap.size + 1 + 1 + 1, 0, none⟩ = some (.int .i64 R) := (blk_cell u3 0).trans rfl; have d31 : w2.cell? ⟨w.heap.size + 1 + 1 + 1, 1, none⟩ = some v := (blk_cell u3 1).trans rfl; have f30 : w2.frozen? ⟨w.heap.size + 1 + 1 + 1, 0, none⟩ = false := blk_frozen u3 0; have f31 : w2.frozen? ⟨w.heap.size + 1 + 1 + 1, 1, none⟩ = false := blk_frozen u3 1; have d4 : w2.cell? ⟨w.heap.size + 1 + 1 + 1 + 1, 0, none⟩ = some (.int .i64 0) := (blk_cell u4 0).trans rfl; have f4 : w2.frozen? ⟨w.heap.size + 1 + 1 + 1 + 1, 0, none⟩ = false := blk_frozen u4 0))
      obtain ⟨k1, k2, k3, k4, k5, k6⟩ := key w2 hb12; exact ⟨k2.trans (tariff_Parse.failed (B := W0.heap.size) 0 [] k3 (by omega) k1).1, (tariff_Parse.failed (B := W0.heap.size) 0 _ k3 (by omega) k1).2⟩
     ·
      have hdec : decide (ri < 1) = false := decide_eq_false (by omega); gi_wp2_with (first | (refine ⟨trivial, ?_⟩; gi_at_call 58; refine (CallsIn.inRound l (callsIn_wide.2 (strings_CutPrefix.calls xs _ cw true _ hcut))).mono ?_; rintro e w1 ⟨rfl, hd1⟩; have hb1 := hd1.below; clear hcut) | (refine ⟨trivial, ?_⟩; gi_at_call 59; refine (CallsIn.inRound l (callsIn_wide.2 (slices_Index_string_string.calls k (some ⟨0, 0, none⟩) 5 tariff_Parse.wordsB cw ri w1 (words_C (GI.below hGW hb1).words) (by decide) hri))).mono ?_; rintro e w2 ⟨rfl, hd2⟩; have hb12 := below_step hb1 hd2.below; have yy := y0.below hb12; obtain ⟨u0, u1, u2, u3, u4⟩ := yy; have f00 : w2.frozen? ⟨w.heap.size, 0, none⟩ = false := blk_frozen u0 0; have f01 : w2.frozen? ⟨w.heap.size, 1, none⟩ = false := blk_frozen u0 1; have f1 : w2.frozen? ⟨w.heap.size + 1, 0, none⟩ = false := blk_frozen u1 0; have f2 : w2.frozen? ⟨w.heap.size + 1 + 1, 0, none⟩ = false := blk_frozen u2 0; have d00 : w2.cell? ⟨w.heap.size, 0, none⟩ = some (.int .i64 0) := (blk_cell u0 0).trans rfl; have d01 : w2.cell? ⟨w.heap.size, 1, none⟩ = some (.slice none 0 0) := (blk_cell u0 1).trans rfl; have d1 : w2.cell? ⟨w.heap.size + 1, 0, none⟩ = some (.int .i64 0) := (blk_cell u1 0).trans rfl; have d2 : w2.cell? ⟨w.heap.size + 1 + 1, 0, none⟩ = some (.int .i64 0) := (blk_cell u2 0).trans rfl; have d30 : w2.cell? ⟨w.heap.size + 1 + 1 + 1, 0, none⟩ = some (.int .i64 R) := (blk_cell u3 0).trans rfl; have d31 : w2.cell? ⟨w.heap.size + 1 + 1 + 1, 1, none⟩ = some v := (blk_cell u3 1).trans rfl; have f30 : w2.frozen? ⟨w.heap.size + 1 + 1 + 1, 0, none⟩ = false := blk_frozen u3 0; have f31 : w2.frozen? ⟨w.heap.size + 1 + 1 + 1, 1, none⟩ = false := blk_frozen u3 1; have d4 : w2.cell? ⟨w.heap.size + 1 + 1 + 1 + 1, 0, none⟩ = some (.int .i64 0) := (blk_cell u4 0).trans rfl; have f4 : w2.frozen? ⟨w.heap.size + 1 + 1 + 1 + 1, 0, none⟩ = false := blk_frozen u4 0))
      obtain ⟨k1, k2, k3, k4, k5, k6⟩ := key w2 hb12; exact ⟨k2.trans (tariff_Parse.failed (B := W0.heap.size) 0 [] k3 (by omega) k1).1, (tariff_Parse.failed (B := W0.heap.size) 0 _ k3 (by omega) k1).2⟩
    case pos =>
     rw [if_pos hgood] at hy; cases hy; obtain ⟨rfl, hri1, rfl⟩ := hgood; have hdec : decide (ri < 1) = false := decide_eq_false (by omega); gi_wp2_with (first | (refine ⟨trivial, ?_⟩; gi_at_call 58; refine (CallsIn.inRound l (callsIn_wide.2 (strings_CutPrefix.calls xs _ cw true _ hcut))).mono ?_; rintro e w1 ⟨rfl, hd1⟩; have hb1 := hd1.below; clear hcut) | (refine ⟨trivial, ?_⟩; gi_at_call 59; refine (CallsIn.inRound l (callsIn_wide.2 (slices_Index_string_string.calls k (some ⟨0, 0, none⟩) 5 tariff_Parse.wordsB cw ri w1 (words_C (GI.below hGW hb1).words) (by decide) hri))).mono ?_; rintro e w2 ⟨rfl, hd2⟩; have hb12 := below_step hb1 hd2.below; have yy := y0.below hb12; obtain ⟨u0, u1, u2, u3, u4⟩ := yy; have f00 : w2.frozen? ⟨w.heap.size, 0, none⟩ = false := blk_frozen u0 0; have f01 : w2.frozen? ⟨w.heap.size, 1, none⟩ = false := blk_frozen u0 1; have f1 : w2.frozen? ⟨w.heap.size + 1, 0, none⟩ = false := blk_frozen u1 0; have f2 : w2.frozen? ⟨w.heap.size + 1 + 1, 0, none⟩ = false := blk_frozen u2 0; have d00 : w2.cell? ⟨w.heap.size, 0, none⟩ = some (.int .i64 0) := (blk_cell u0 0).trans rfl; have d01 : w2.cell? ⟨w.heap.size, 1, none⟩ = some (.slice none 0 0) := (blk_cell u0 1).trans rfl; have d1 : w2.cell? ⟨w.heap.size + 1, 0, none⟩ = some (.int .i64 0) := (blk_cell u1 0).trans rfl; have d2 : w2.cell? ⟨w.heap.size + 1 + 1, 0, none⟩ = some (.int .i64 0) := (blk_cell u2 0).trans rfl; have d30 : w2.cell? ⟨w.heap.size + 1 + 1 + 1, 0, none⟩ = some (.int .i64 R) := (blk_cell u3 0).trans rfl; have d31 : w2.cell? ⟨w.heap.size + 1 + 1 + 1, 1, none⟩ = some v := (blk_cell u3 1).trans rfl; have f30 : w2.frozen? ⟨w.heap.size + 1 + 1 + 1, 0, none⟩ = false := blk_frozen u3 0; have f31 : w2.frozen? ⟨w.heap.size + 1 + 1 + 1, 1, none⟩ = false := blk_frozen u3 1; have d4 : w2.cell? ⟨w.heap.size + 1 + 1 + 1 + 1, 0, none⟩ = some (.int .i64 0) := (blk_cell u4 0).trans rfl; have f4 : w2.frozen? ⟨w.heap.size + 1 + 1 + 1 + 1, 0, none⟩ = false := blk_frozen u4 0))
     obtain ⟨k1, k2, k3, k4, k5, k6⟩ := key w2 hb12; obtain ⟨p0, p1, p2, p3, p4⟩ := k1; have far : ∀ j, j ≠ w.heap.size + 4 → ((w2.setCell ⟨w.heap.size + 1 + 1 + 1, 0, none⟩ (.int .i64 ri)).setCell ⟨w.heap.size + 1 + 1 + 1 + 1, 0, none⟩ (.int .i64 1)).heap[j]? = (w2.setCell ⟨w.heap.size + 1 + 1 + 1, 0, none⟩ (.int .i64 ri)).heap[j]? := fun j h1 => Below.heap_setCell _ _ _ j (by show j ≠ w.heap.size + 1 + 1 + 1 + 1; omega)
     refine ⟨k2.trans (keeps_low (by simp) (fun j hj _ => far j (by omega))), (far _ (by omega)).trans k4, 1, ri, acc, v, more, hl, q2, ⟨(far _ (by omega)).trans p0, (far _ (by omega)).trans p1, (far _ (by omega)).trans p2, (far _ (by omega)).trans p3, blk_put p4 0 _ rfl⟩, own_setCell k5 (fun e => by have := own_base ho _ e.symm; (have h9 : w.heap.size + 6 ≤ w.heap.size + 1 + 1 + 1 + 1 := this); omega) _,
      k3.setCell (p := ⟨w.heap.size + 1 + 1 + 1 + 1, 0, none⟩) (by show w.heap.size ≤ w.heap.size + 1 + 1 + 1 + 1; omega) _, by simpa using k6⟩
   ·
    rw [if_neg hn] at q2; replace q2 := Option.bind_eq_some_iff.mp q2; obtain ⟨ty, hy, q2⟩ := q2; unfold tariff_Parse.rate at hy; replace hy := Option.bind_eq_some_iff.mp hy; obtain ⟨⟨g0, g1, g2, gok⟩, hrt, hy⟩ := hy; dsimp only at hrt hy
    have hn0 : ¬ ((n : Int) = 0) := by omega
    have hne : ((n : Int) == 0) = false := by rw [beq_eq_false_iff_ne]; exact hn0
    have hinc : wrap64 ((n : Int) + 1) = (n : Int) + 1 := by unfold wrap64; omega
    obtain ⟨Av, cv, rfl⟩ := own_slice ho; by_cases hgood : gok = true ∧ xb = true
    case neg =>
     rw [if_neg hgood] at hy; cases hy; cases q2
     have hwhich : gok = false ∨ (gok = true ∧ xb = false) := by
      cases gok <;> cases xb <;> simp_all
     rcases hwhich with rfl | ⟨rfl, rfl⟩
     ·
      gi_wp2_with (refine ⟨trivial, ?_⟩; gi_at_call 60; refine (CallsIn.inRound l (callsIn_wide.2 (tariff_rate.calls k xs g0 g1 g2 false W2 hGW hrt))).mono ?_; rintro e w1 ⟨rfl, hb1⟩; have hb1a : Below W2.heap.size W2 (w1.alloc (.cells #[.int .i64 g0, .int .i64 g1, .int .i64 g2] 26)) := below_alloc hb1 _; have yy := y0.below hb1a; obtain ⟨u0, u1, u2, u3, u4⟩ := yy; have f00 : (w1.alloc (.cells #[.int .i64 g0, .int .i64 g1, .int .i64 g2] 26)).frozen? ⟨w.heap.size, 0, none⟩ = false := blk_frozen u0 0; have f01 : (w1.alloc (.cells #[.int .i64 g0, .int .i64 g1, .int .i64 g2] 26)).frozen? ⟨w.heap.size, 1, none⟩ = false := blk_frozen u0 1; have f1 : (w1.alloc (.cells #[.int .i64 g0, .int .i64 g1, .int .i64 g2] 26)).frozen? ⟨w.heap.size + 1, 0, none⟩ = false := blk_frozen u1 0; have f2 : (w1.alloc (.cells #[.int .i64 g0, .int .i64 g1, .int .i64 g2] 26)).frozen? ⟨w.heap.size + 1 + 1, 0, none⟩ = false := blk_frozen u2 0; have d00 : (w1.alloc (.cells #[.int .i64 g0, .int .i64 g1, .int .i64 g2] 26)).cell? ⟨w.heap.size, 0, none⟩ = some (.int .i64 0) := (blk_cell u0 0).trans rfl; have d01 : (w1.alloc (.cells #[.int .i64 g0, .int .i64 g1, .int .i64 g2] 26)).cell? ⟨w.heap.size, 1, none⟩ = some (.slice none 0 0) := (blk_cell u0 1).trans rfl; have d1 : (w1.alloc (.cells #[.int .i64 g0, .int .i64 g1, .int .i64 g2] 26)).cell? ⟨w.heap.size + 1, 0, none⟩ = some (.int .i64 0) := (blk_cell u1 0).trans rfl; have d2 : (w1.alloc (.cells #[.int .i64 g0, .int .i64 g1, .int .i64 g2] 26)).cell? ⟨w.heap.size + 1 + 1, 0, none⟩ = some (.int .i64 0) := (blk_cell u2 0).trans rfl; have d30 : (w1.alloc (.cells #[.int .i64 g0, .int .i64 g1, .int .i64 g2] 26)).cell? ⟨w.heap.size + 1 + 1 + 1, 0, none⟩ = some (.int .i64 R) := (blk_cell u3 0).trans rfl; have d31 : (w1.alloc (.cells #[.int .i64 g0, .int .i64 g1, .int .i64 g2] 26)).cell? ⟨w.heap.size + 1 + 1 + 1, 1, none⟩ = some (.slice Av acc.length cv) := (blk_cell u3 1).trans rfl; have f30 : (w1.alloc (.cells #[.int .i64 g0, .int .i64 g1, .int .i64 g2] 26)).frozen? ⟨w.heap.size + 1 + 1 + 1, 0, none⟩ = false := blk_frozen u3 0; have f31 : (w1.alloc (.cells #[.int .i64 g0, .int .i64 g1, .int .i64 g2] 26)).frozen? ⟨w.heap.size + 1 + 1 + 1, 1, none⟩ = false := blk_frozen u3 1; have d4 : (w1.alloc (.cells #[.int .i64 g0, .int .i64 g1, .int .i64 g2] 26)).cell? ⟨w.heap.size + 1 + 1 + 1 + 1, 0, none⟩ = some (.int .i64 (n : Int)) := (blk_cell u4 0).trans rfl; have f4 : (w1.alloc (.cells #[.int .i64 g0, .int .i64 g1, .int .i64 g2] 26)).frozen? ⟨w.heap.size + 1 + 1 + 1 + 1, 0, none⟩ = false := blk_frozen u4 0)
      gi_region_o
      all_goals (rename_i Kr hr_; refine hr_ _ _ (wpIn_ret ?_))
      all_goals exact ⟨(keeps_below hb1a).trans (tariff_Parse.failedD (B := W0.heap.size) (n : Int) [] (below_step hB hb1a) (by omega) (y0.below hb1a)).1, (tariff_Parse.failedD (B := W0.heap.size) (n : Int) _ (below_step hB hb1a) (by omega) (y0.below hb1a)).2⟩
     ·
      gi_wp2_with (refine ⟨trivial, ?_⟩; gi_at_call 60; refine (CallsIn.inRound l (callsIn_wide.2 (tariff_rate.calls k xs g0 g1 g2 true W2 hGW hrt))).mono ?_; rintro e w1 ⟨rfl, hb1⟩; have hb1a : Below W2.heap.size W2 (w1.alloc (.cells #[.int .i64 g0, .int .i64 g1, .int .i64 g2] 26)) := below_alloc hb1 _; have yy := y0.below hb1a; obtain ⟨u0, u1, u2, u3, u4⟩ := yy; have f00 : (w1.alloc (.cells #[.int .i64 g0, .int .i64 g1, .int .i64 g2] 26)).frozen? ⟨w.heap.size, 0, none⟩ = false := blk_frozen u0 0; have f01 : (w1.alloc (.cells #[.int .i64 g0, .int .i64 g1, .int .i64 g2] 26)).frozen? ⟨w.heap.size, 1, none⟩ = false := blk_frozen u0 1; have f1 : (w1.alloc (.cells #[.int .i64 g0, .int .i64 g1, .int .i64 g2] 26)).frozen? ⟨w.heap.size + 1, 0, none⟩ = false := blk_frozen u1 0; have f2 : (w1.alloc (.cells #[.int .i64 g0, .int .i64 g1, .int .i64 g2] 26)).frozen? ⟨w.heap.size + 1 + 1, 0, none⟩ = false := blk_frozen u2 0; have d00 : (w1.alloc (.cells #[.int .i64 g0, .int .i64 g1, .int .i64 g2] 26)).cell? ⟨w.heap.size, 0, none⟩ = some (.int .i64 0) := (blk_cell u0 0).trans rfl; have d01 : (w1.alloc (.cells #[.int .i64 g0, .int .i64 g1, .int .i64 g2] 26)).cell? ⟨w.heap.size, 1, none⟩ = some (.slice none 0 0) := (blk_cell u0 1).trans rfl; have d1 : (w1.alloc (.cells #[.int .i64 g0, .int .i64 g1, .int .i64 g2] 26)).cell? ⟨w.heap.size + 1, 0, none⟩ = some (.int .i64 0) := (blk_cell u1 0).trans rfl; have d2 : (w1.alloc (.cells #[.int .i64 g0, .int .i64 g1, .int .i64 g2] 26)).cell? ⟨w.heap.size + 1 + 1, 0, none⟩ = some (.int .i64 0) := (blk_cell u2 0).trans rfl; have d30 : (w1.alloc (.cells #[.int .i64 g0, .int .i64 g1, .int .i64 g2] 26)).cell? ⟨w.heap.size + 1 + 1 + 1, 0, none⟩ = some (.int .i64 R) := (blk_cell u3 0).trans rfl; have d31 : (w1.alloc (.cells #[.int .i64 g0, .int .i64 g1, .int .i64 g2] 26)).cell? ⟨w.heap.size + 1 + 1 + 1, 1, none⟩ = some (.slice Av acc.length cv) := (blk_cell u3 1).trans rfl; have f30 : (w1.alloc (.cells #[.int .i64 g0, .int .i64 g1, .int .i64 g2] 26)).frozen? ⟨w.heap.size + 1 + 1 + 1, 0, none⟩ = false := blk_frozen u3 0; have f31 : (w1.alloc (.cells #[.int .i64 g0, .int .i64 g1, .int .i64 g2] 26)).frozen? ⟨w.heap.size + 1 + 1 + 1, 1, none⟩ = false := blk_frozen u3 1; have d4 : (w1.alloc (.cells #[.int .i64 g0, .int .i64 g1, .int .i64 g2] 26)).cell? ⟨w.heap.size + 1 + 1 + 1 + 1, 0, none⟩ = some (.int .i64 (n : Int)) := (blk_cell u4 0).trans rfl; have f4 : (w1.alloc (.cells #[.int .i64 g0, .int .i64 g1, .int .i64 g2] 26)).frozen? ⟨w.heap.size + 1 + 1 + 1 + 1, 0, none⟩ = false := blk_frozen u4 0)
      gi_region_o
      all_goals (rename_i Kr hr_; refine hr_ _ _ (wpIn_ret ?_))
      all_goals exact ⟨(keeps_below hb1a).trans (tariff_Parse.failedD (B := W0.heap.size) (n : Int) [] (below_step hB hb1a) (by omega) (y0.below hb1a)).1, (tariff_Parse.failedD (B := W0.heap.size) (n : Int) _ (below_step hB hb1a) (by omega) (y0.below hb1a)).2⟩
    case pos =>
     rw [if_pos hgood] at hy; cases hy; obtain ⟨rfl, rfl⟩ := hgood; obtain ⟨i0, hi0, hz0, hzs, hzb⟩ := info_parts info26; gi_wp2_with (first | (refine ⟨trivial, ?_⟩; gi_at_call 60; refine (CallsIn.inRound l (callsIn_wide.2 (tariff_rate.calls k xs g0 g1 g2 true W2 hGW hrt))).mono ?_; rintro e w1 ⟨rfl, hb1⟩; have hb1a : Below W2.heap.size W2 (w1.alloc (.cells #[.int .i64 g0, .int .i64 g1, .int .i64 g2] 26)) := below_alloc hb1 _; have yy := y0.below hb1a; obtain ⟨u0, u1, u2, u3, u4⟩ := yy; have f00 : (w1.alloc (.cells #[.int .i64 g0, .int .i64 g1, .int .i64 g2] 26)).frozen? ⟨w.heap.size, 0, none⟩ = false := blk_frozen u0 0; have f01 : (w1.alloc (.cells #[.int .i64 g0, .int .i64 g1, .int .i64 g2] 26)).frozen? ⟨w.heap.size, 1, none⟩ = false := blk_frozen u0 1; have f1 : (w1.alloc (.cells #[.int .i64 g0, .int .i64 g1, .int .i64 g2] 26)).frozen? ⟨w.heap.size + 1, 0, none⟩ = false := blk_frozen u1 0; have f2 : (w1.alloc (.cells #[.int .i64 g0, .int .i64 g1, .int .i64 g2] 26)).frozen? ⟨w.heap.size + 1 + 1, 0, none⟩ = false := blk_frozen u2 0; have d00 : (w1.alloc (.cells #[.int .i64 g0, .int .i64 g1, .int .i64 g2] 26)).cell? ⟨w.heap.size, 0, none⟩ = some (.int .i64 0) := (blk_cell u0 0).trans rfl; have d01 : (w1.alloc (.cells #[.int .i64 g0, .int .i64 g1, .int .i64 g2] 26)).cell? ⟨w.heap.size, 1, none⟩ = some (.slice none 0 0) := (blk_cell u0 1).trans rfl; have d1 : (w1.alloc (.cells #[.int .i64 g0, .int .i64 g1, .int .i64 g2] 26)).cell? ⟨w.heap.size + 1, 0, none⟩ = some (.int .i64 0) := (blk_cell u1 0).trans rfl; have d2 : (w1.alloc (.cells #[.int .i64 g0, .int .i64 g1, .int .i64 g2] 26)).cell? ⟨w.heap.size + 1 + 1, 0, none⟩ = some (.int .i64 0) := (blk_cell u2 0).trans rfl; have d30 : (w1.alloc (.cells #[.int .i64 g0, .int .i64 g1, .int .i64 g2] 26)).cell? ⟨w.heap.size + 1 + 1 + 1, 0, none⟩ = some (.int .i64 R) := (blk_cell u3 0).trans rfl; have d31 : (w1.alloc (.cells #[.int .i64 g0, .int .i64 g1, .int .i64 g2] 26)).cell? ⟨w.heap.size + 1 + 1 + 1, 1, none⟩ = some (.slice Av acc.length cv) := (blk_cell u3 1).trans rfl; have f30 : (w1.alloc (.cells #[.int .i64 g0, .int .i64 g1, .int .i64 g2] 26)).frozen? ⟨w.heap.size + 1 + 1 + 1, 0, none⟩ = false := blk_frozen u3 0; have f31 : (w1.alloc (.cells #[.int .i64 g0, .int .i64 g1, .int .i64 g2] 26)).frozen? ⟨w.heap.size + 1 + 1 + 1, 1, none⟩ = false := blk_frozen u3 1; have d4 : (w1.alloc (.cells #[.int .i64 g0, .int .i64 g1, .int .i64 g2] 26)).cell? ⟨w.heap.size + 1 + 1 + 1 + 1, 0, none⟩ = some (.int .i64 (n : Int)) := (blk_cell u4 0).trans rfl; have f4 : (w1.alloc (.cells #[.int .i64 g0, .int .i64 g1, .int .i64 g2] 26)).frozen? ⟨w.heap.size + 1 + 1 + 1 + 1, 0, none⟩ = false := blk_frozen u4 0) | (gi_at_builtin; refine wpListIn_append_own _ rfl _ _ 22 rfl (w.heap.size + 6) 26 i0 (.agg #[(.int .i64 0), (.int .i64 0), (.int .i64 0)]) 3 24 Tryz.underlying22 hi0 hz0 hzs hzb rfl (by decide) _ _ _ rfl (own_alloc (pw_own_below ho hb1a) _) ⟨w1.heap.size + 1, 0, none⟩ 1 1 [.int .i64 g0, .int .i64 g1, .int .i64 g2] rfl rfl (fun j u hj => by have h9 := three_cells (w1.alloc (.cells #[.int .i64 g0, .int .i64 g1, .int .i64 g2] 26)) (.int .i64 g0) (.int .i64 g1) (.int .i64 g2) 26 j u hj; rwa [World.size_alloc] at h9) (by simp [Value.oneCell']) (by unfold maxLen; omega) (by omega) (by have := hb1a.size; rw [World.size_alloc]; omega) ?_; intro v' w4 hown' hgrow _; obtain ⟨g', cap', rfl⟩ := ownsRow_succ hown'; have yy4 := (y0.below (below_alloc hb1a (.cells #[.int .i64 g0, .int .i64 g1, .int .i64 g2] 26))).grown hgrow (fun j e => by have := own_base ho j e; omega); obtain ⟨s0, s1, s2, s3, s4⟩ := yy4; have e31 : w4.cell? ⟨w.heap.size + 1 + 1 + 1, 1, none⟩ = some (.slice Av acc.length cv) := (blk_cell s3 1).trans rfl; have e31f : w4.frozen? ⟨w.heap.size + 1 + 1 + 1, 1, none⟩ = false := blk_frozen s3 1; have e4 : w4.cell? ⟨w.heap.size + 1 + 1 + 1 + 1, 0, none⟩ = some (.int .i64 (n : Int)) := (blk_cell s4 0).trans rfl; have e4f : w4.frozen? ⟨w.heap.size + 1 + 1 + 1 + 1, 0, none⟩ = false := blk_frozen s4 0))
     try simp only [hinc]
     exact tariff_Parse.went (B := W0.heap.size) hl q2 hB (below_alloc hb1a _) (by omega) y0 ho hW5 hown' hgrow
  case done =>
   rintro W ⟨n, R, acc, v, rest, q1, q2, y, ho, hB, hW5⟩ hD; have hrest : rest = [] := by simpa using q1
   subst hrest; unfold tariff_Parse.go at q2; have y0 := y; obtain ⟨z0, z1, z2, z3, z4⟩ := y; have cn : W.cell? ⟨w.heap.size + 1 + 1 + 1 + 1, 0, none⟩ = some (.int .i64 (n : Int)) := (blk_cell z4 0).trans rfl; have c30 : W.cell? ⟨w.heap.size + 1 + 1 + 1, 0, none⟩ = some (.int .i64 R) := (blk_cell z3 0).trans rfl; have c31 : W.cell? ⟨w.heap.size + 1 + 1 + 1, 1, none⟩ = some v := (blk_cell z3 1).trans rfl; have hDs : w.heap.size + 6 ≤ W0.heap.size := by omega
   by_cases hn : n = 0
   ·
    rw [if_pos hn] at q2; cases q2; subst hn; have f00 : W.frozen? ⟨w.heap.size, 0, none⟩ = false := blk_frozen z0 0; have f01 : W.frozen? ⟨w.heap.size, 1, none⟩ = false := blk_frozen z0 1; have f1 : W.frozen? ⟨w.heap.size + 1, 0, none⟩ = false := blk_frozen z1 0; have f2 : W.frozen? ⟨w.heap.size + 1 + 1, 0, none⟩ = false := blk_frozen z2 0; have d00 : W.cell? ⟨w.heap.size, 0, none⟩ = some (.int .i64 0) := (blk_cell z0 0).trans rfl; have d01 : W.cell? ⟨w.heap.size, 1, none⟩ = some (.slice none 0 0) := (blk_cell z0 1).trans rfl; have d1 : W.cell? ⟨w.heap.size + 1, 0, none⟩ = some (.int .i64 0) := (blk_cell z1 0).trans rfl; have d2 : W.cell? ⟨w.heap.size + 1 + 1, 0, none⟩ = some (.int .i64 0) := (blk_cell z2 0).trans rfl; gi_wp2
    have hDD : W0.heap.size = w.heap.size + 6 := hsz; rw [hDD] at hD; exact tariff_Parse.leave (by first | exact (tariff_Parse.put_far 0 _ 0 3 (by omega)).trans hD | (rw [hDD]; exact (tariff_Parse.put_far 0 _ 0 3 (by omega)).trans hD)) (by omega) (y0.put 0 _ 0 3) (tariff_Parse.put_below 0 _ 0 3 rfl hB) (World.ownsRow_nil _ _ _ _) rfl rfl rfl
   ·
    rw [if_neg hn] at q2; obtain ⟨b, hb, q2⟩ := Option.bind_eq_some_iff.mp q2; obtain ⟨Av, cv, hse, hle, hC⟩ := Kd.R_reads (own_R26 ho); subst hse; have hn0 : ¬ ((n : Int) = 0) := by omega
    have hne : ((n : Int) == 0) = false := by rw [beq_eq_false_iff_ne]; exact hn0
    have hDD : W0.heap.size = w.heap.size + 6 := hsz
    cases b with
    | false =>
     rw [if_neg (by simp)] at q2; cases q2; gi_wp2_with (refine ⟨trivial, ?_⟩; gi_at_call 41; refine (callsIn_wide.2 (tariff_right.calls k R Av cv acc false W hC hle hb)).mono ?_; rintro e w1 ⟨rfl, hb1⟩; obtain ⟨u0, u1, u2, u3, u4⟩ := y0.below hb1; have f00 : w1.frozen? ⟨w.heap.size, 0, none⟩ = false := blk_frozen u0 0; have f01 : w1.frozen? ⟨w.heap.size, 1, none⟩ = false := blk_frozen u0 1; have f1 : w1.frozen? ⟨w.heap.size + 1, 0, none⟩ = false := blk_frozen u1 0; have f2 : w1.frozen? ⟨w.heap.size + 1 + 1, 0, none⟩ = false := blk_frozen u2 0; have d00 : w1.cell? ⟨w.heap.size, 0, none⟩ = some (.int .i64 0) := (blk_cell u0 0).trans rfl; have d01 : w1.cell? ⟨w.heap.size, 1, none⟩ = some (.slice none 0 0) := (blk_cell u0 1).trans rfl; have d1 : w1.cell? ⟨w.heap.size + 1, 0, none⟩ = some (.int .i64 0) := (blk_cell u1 0).trans rfl; have d2 : w1.cell? ⟨w.heap.size + 1 + 1, 0, none⟩ = some (.int .i64 0) := (blk_cell u2 0).trans rfl; have d30 : w1.cell? ⟨w.heap.size + 1 + 1 + 1, 0, none⟩ = some (.int .i64 R) := (blk_cell u3 0).trans rfl; have d31 : w1.cell? ⟨w.heap.size + 1 + 1 + 1, 1, none⟩ = some (.slice Av acc.length cv) := (blk_cell u3 1).trans rfl)
     rw [hDD] at hD; have hd1 := (hb1.block _ (blk_lt hD)).trans hD
     exact tariff_Parse.leave ((tariff_Parse.put_far 0 _ (-1) 1 (by omega)).trans hd1) (by omega) ((y0.below hb1).put 0 _ (-1) 1) (tariff_Parse.put_below 0 _ (-1) 1 rfl (below_step hB hb1)) (World.ownsRow_nil _ _ _ _) rfl rfl rfl
    | true =>
     rw [if_pos rfl] at q2; cases q2; gi_wp2_with (refine ⟨trivial, ?_⟩; gi_at_call 41; refine (callsIn_wide.2 (tariff_right.calls k r1 Av cv r2 true W hC hle hb)).mono ?_; rintro e w1 ⟨rfl, hb1⟩; obtain ⟨u0, u1, u2, u3, u4⟩ := y0.below hb1; have f00 : w1.frozen? ⟨w.heap.size, 0, none⟩ = false := blk_frozen u0 0; have f01 : w1.frozen? ⟨w.heap.size, 1, none⟩ = false := blk_frozen u0 1; have f1 : w1.frozen? ⟨w.heap.size + 1, 0, none⟩ = false := blk_frozen u1 0; have f2 : w1.frozen? ⟨w.heap.size + 1 + 1, 0, none⟩ = false := blk_frozen u2 0; have d00 : w1.cell? ⟨w.heap.size, 0, none⟩ = some (.int .i64 0) := (blk_cell u0 0).trans rfl; have d01 : w1.cell? ⟨w.heap.size, 1, none⟩ = some (.slice none 0 0) := (blk_cell u0 1).trans rfl; have d1 : w1.cell? ⟨w.heap.size + 1, 0, none⟩ = some (.int .i64 0) := (blk_cell u1 0).trans rfl; have d2 : w1.cell? ⟨w.heap.size + 1 + 1, 0, none⟩ = some (.int .i64 0) := (blk_cell u2 0).trans rfl; have d30 : w1.cell? ⟨w.heap.size + 1 + 1 + 1, 0, none⟩ = some (.int .i64 r1) := (blk_cell u3 0).trans rfl; have d31 : w1.cell? ⟨w.heap.size + 1 + 1 + 1, 1, none⟩ = some (.slice Av r2.length cv) := (blk_cell u3 1).trans rfl)
     rw [hDD] at hD; have hd1 := (hb1.block _ (blk_lt hD)).trans hD; refine tariff_Parse.leave ((tariff_Parse.put_far r1 _ (-1) 0 (by omega)).trans hd1) (by omega) ((y0.below hb1).put r1 _ (-1) 0) (tariff_Parse.put_below r1 _ (-1) 0 rfl (below_step hB hb1)) ?_ rfl rfl rfl; have ho1 := pw_own_below ho hb1; have no : ∀ b, b < w.heap.size + 6 → some b ≠ (Value.slice Av r2.length cv).ownBlock := fun b hb e => by have := own_base ho1 b e.symm; omega
     exact own_setCell (own_setCell (own_setCell (own_setCell ho1 (no _ (by show w.heap.size < _; omega)) _) (no _ (by show w.heap.size < _; omega)) _) (no _ (by show w.heap.size + 1 < _; omega)) _) (no _ (by show w.heap.size + 1 + 1 < _; omega)) _
  case stop =>
   rintro pre W _ ⟨hr1, hr2, y, hB⟩ hD; dsimp only at hr1 hr2 y
   subst hr1; subst hr2; gi_wp2
   exact tariff_Parse.leave hD (by omega) y hB (World.ownsRow_nil _ _ _ _) rfl rfl rfl
end
def spilelaw46_example.f  : Option (Int × (List (S26))) := some (3, (([(⟨1, 0, 1000⟩ : S26), (⟨1, 100, 1500⟩ : S26)] : List (S26))))
set_option maxHeartbeats 8000000 in
set_option maxRecDepth 100000 in
theorem spilelaw46_example.calls  (r1 : Int) (r2 : List (S26)) (w : World) (h : spilelaw46_example.f  = some (r1, r2)) :
  Calls Tryz.prog 34 #[] w fun e w' => ∃ v1_ : Value, e = .returned (.agg #[.int .i64 r1, v1_]) ∧ Kd.R k26 26 w' w.heap.size (fun _ => True) v1_ r2 ∧ Below w.heap.size w w' := by
 have hu24 := Tryz.underlying24; have hu26 := Tryz.underlying26; have HB := Aside0.mk (Below.refl w.heap.size w); have H : (some (3, (([(⟨1, 0, 1000⟩ : S26), (⟨1, 100, 1500⟩ : S26)] : List (S26))))) = some (r1, r2) := h; clear h; obtain ⟨y214, hy214⟩ : ∃ y_ : List (S26), y_ = (([(⟨1, 0, 1000⟩ : S26), (⟨1, 100, 1500⟩ : S26)] : List (S26))) := ⟨_, rfl⟩; replace H : (some (3, y214)) = some (r1, r2) := by first | (rw [hy214]; with_reducible exact H) | (have H2_ := (Option.bind_some _ _).symm.trans H; rw [hy214]; with_reducible exact H2_) | (have H2_ := (Option.bind_some _ _).symm.trans H; with_reducible exact H2_) | with_reducible exact H | (rw [hy214]; exact H) | exact H
 have Ny214 := Aside0.mk hy214; clear hy214; simp only [Option.some.injEq, Prod.mk.injEq] at H; obtain ⟨rfl, rfl⟩ := H; go_enter Tryz.func34, Tryz.ntmps34
 go_wp2_with (first | ((with_reducible refine gate_dst (N := 0) rfl ?_); refine box_event ?hg (N := 0) ?hd (cs := #[.int .i64 0, .slice none 0 0]) (t := 24) ?hr ?_; (case hd => rfl); (case hg => rfl); (case hr => first | (go_simp; done) | (go_simp; rfl)); intro gb213 hg w1 hbox hb; have n0_ := Aside0.mk (below_step (eG HB.out) hb); have n1_ := Aside0.mk (hbox); have n2_ := Aside0.mk ((by rw [hg]; exact (below_size (eG HB.out)) : w.heap.size ≤ gb213)); have n3_ := Aside0.mk ((by rw [hg]; exact (below_size (eG HB.out)) : w.heap.size ≤ gb213)); clear HB; have HB := n0_; have BK213 := n1_; have GW213 := n2_; have GE213 := n3_; have ig213_ := geI GE213; clear n0_ n1_ n2_ n3_; clear hb hbox hg) | ((with_reducible refine gate_dst (N := 3) rfl ?_); refine Kd.R_lit k26 _ 26 ?hg (N := 3) ?hd (xs := ([(⟨1, 0, 1000⟩ : S26), (⟨1, 100, 1500⟩ : S26)] : List (S26))) (inner := [.int .i64 1, .int .i64 0, .int .i64 1000, .int .i64 1, .int .i64 100, .int .i64 1500]) (ok := fun _ => True) (okp := fun _ => True) ?hr ?hp (fun _ hk => hk) trivial (Below.refl _ _) (Nat.le_refl _) (by simp) ?_; (case hd => rfl); (case hg => rfl); (case hr => first | (go_simp; done) | (go_simp; rfl)); (case hp => exact (Reps.c3 (show Kd.M k26 _ _ _ (⟨1, 0, 1000⟩ : S26) [.int .i64 1, .int .i64 0, .int .i64 1000] from (k26_mkM _ _ _ (⟨1, 0, 1000⟩ : S26) )) (Reps.c3 (show Kd.M k26 _ _ _ (⟨1, 100, 1500⟩ : S26) [.int .i64 1, .int .i64 100, .int .i64 1500] from (k26_mkM _ _ _ (⟨1, 100, 1500⟩ : S26) )) (Reps.none _ _)))); intro v215 w2 ho3 hb hg_ hnew_; clear hg_ hnew_; (first | rw [← Ny214.out] at ho3 | (simp only [Int.reduceToNat] at ho3; rw [← Ny214.out] at ho3)); have n0_ := Aside0.mk (Kd.R_lower ho3 (below_size (eG HB.out))); have n1_ := Aside0.mk (blk_below (bG BK213.out) hb); have n2_ := Aside0.mk (below_step (eG HB.out) hb); clear BK213; clear HB; have HO216 := n0_; have BK213 := n1_; have HB := n2_; clear n0_ n1_ n2_; clear hb ho3; obtain ⟨Ao4, co4, eo4⟩ := Kd.R_slice HO216.out; subst eo4; have hcz5_0 : w2.cell? ⟨gb213, 0, none⟩ = some (.int .i64 0) := (blk_cell BK213.out 0).trans rfl; have hcz5_1 : w2.cell? ⟨gb213, 1, none⟩ = some (.slice none 0 0) := (blk_cell BK213.out 1).trans rfl; have hfz5_0 := blk_frozen BK213.out 0; have hfz5_1 := blk_frozen BK213.out 1))
 refine bodyPost_ret (results_cell_row rfl _ _ gb213 24 #[.int .i64 3, .slice Ao4 y214.length co4] (0, 0) _ rfl (by (with_reducible repeat first | apply bN | apply bD | apply bA); refine blk_put (cs := #[.int .i64 3, .slice none 0 0]) ?_ 1 _ rfl; (with_reducible repeat first | apply bN | apply bD | apply bA); refine blk_put (cs := #[.int .i64 0, .slice none 0 0]) ?_ 0 _ rfl; (with_reducible repeat first | apply bN | apply bD | apply bA); exact BK213.out) Tryz.underlying24 rfl (by kernel_rfl)) rfl ?_; exact ⟨_, by first | rfl | (simp [errW_none, errW_some] <;> rfl) | (simp [*, errW_none, errW_some] <;> rfl), by (with_reducible repeat (first | apply Kd.R_alloc | apply Kd.R_drewN | apply Kd.R_drew)); exact Kd.R_mono (Kd.R_far (p := ⟨gb213, 1, none⟩) (Kd.R_far (p := ⟨gb213, 0, none⟩) (Kd.R_types HO216.out BK213.out (by decide)) (fun _ hk => hk.2) (.int .i64 3)) (fun _ hk => hk.2) (.slice Ao4 y214.length co4)) (fun _ hk => trivial), eG HB.out⟩
def spilelaw46_awake.f  : Option (Bool) := if ([(⟨1, 0, 1000⟩ : S26), (⟨1, 50, 7⟩ : S26), (⟨1, 100, 1500⟩ : S26)].length : Int) = 3 then (if 1 < ([(⟨1, 0, 1000⟩ : S26), (⟨1, 50, 7⟩ : S26), (⟨1, 100, 1500⟩ : S26)].length : Int) then (if ((rd_T26 [(⟨1, 0, 1000⟩ : S26), (⟨1, 50, 7⟩ : S26), (⟨1, 100, 1500⟩ : S26)] 1).f2) = 7 then (some true) else (some true)) else (none)) else (some true)
set_option maxHeartbeats 8000000 in
set_option maxRecDepth 100000 in
theorem spilelaw46_awake.calls  (r : Bool) (w : World) (hG : GI w) (h : spilelaw46_awake.f  = some r) :
  Calls Tryz.prog 11 #[] w fun e w' => e = .returned (.bool r) ∧ Below w.heap.size w w' := by
 have hu26 := Tryz.underlying26; have hu24 := Tryz.underlying24; have HG := Aside0.mk hG; clear hG; have HB := Aside0.mk (Below.refl w.heap.size w); have H : (if ([(⟨1, 0, 1000⟩ : S26), (⟨1, 50, 7⟩ : S26), (⟨1, 100, 1500⟩ : S26)].length : Int) = 3 then (if 1 < ([(⟨1, 0, 1000⟩ : S26), (⟨1, 50, 7⟩ : S26), (⟨1, 100, 1500⟩ : S26)].length : Int) then (if ((rd_T26 [(⟨1, 0, 1000⟩ : S26), (⟨1, 50, 7⟩ : S26), (⟨1, 100, 1500⟩ : S26)] 1).f2) = 7 then (some true) else (some true)) else (none)) else (some true)) = some r := h; clear h; have A1 := Aside0.mk (show (spilelaw46_example.f) = some (3, [(⟨1, 0, 1000⟩ : S26), (⟨1, 100, 1500⟩ : S26)]) from by kernel_rfl); have A2 := Aside0.mk (show (tariff_Duty.f 400 3 [(⟨1, 0, 1000⟩ : S26), (⟨1, 100, 1500⟩ : S26)] 1 99 25000000) = some (2500, 0) from by kernel_rfl); have A3 := Aside0.mk (show (spilelaw46_example.f) = some (3, [(⟨1, 0, 1000⟩ : S26), (⟨1, 100, 1500⟩ : S26)]) from by kernel_rfl); have A4 := Aside0.mk (show (tariff_Duty.f 400 3 [(⟨1, 0, 1000⟩ : S26), (⟨1, 100, 1500⟩ : S26)] 1 100 25000000) = some (3750, 0) from by kernel_rfl); have A5 := Aside0.mk (show (spilelaw46_example.f) = some (3, [(⟨1, 0, 1000⟩ : S26), (⟨1, 100, 1500⟩ : S26)]) from by kernel_rfl); have A6 := Aside0.mk (show (tariff_Duty.f 400 3 [(⟨1, 0, 1000⟩ : S26), (⟨1, 100, 1500⟩ : S26)] 1 0 5000) = some (1, 0) from by kernel_rfl); have A7 := Aside0.mk (show (spilelaw46_example.f) = some (3, [(⟨1, 0, 1000⟩ : S26), (⟨1, 100, 1500⟩ : S26)]) from by kernel_rfl); have A8 := Aside0.mk (show (tariff_Greatest.f 400 3 [(⟨1, 0, 1000⟩ : S26), (⟨1, 100, 1500⟩ : S26)] 1 50 100) = some (1, 100, 1500, 0) from by kernel_rfl); have A9 := Aside0.mk (show (spilelaw46_example.f) = some (3, [(⟨1, 0, 1000⟩ : S26), (⟨1, 100, 1500⟩ : S26)]) from by kernel_rfl); have A10 := Aside0.mk (show (tariff_Changes.f 400 3 [(⟨1, 0, 1000⟩ : S26), (⟨1, 100, 1500⟩ : S26)] 1 50 100) = some (([100] : List Int), 0) from by kernel_rfl); have A11 := Aside0.mk (show (spilelaw46_example.f) = some (3, [(⟨1, 0, 1000⟩ : S26), (⟨1, 100, 1500⟩ : S26)]) from by kernel_rfl); have A12 := Aside0.mk (show (tariff_Print.f 400 3 [(⟨1, 0, 1000⟩ : S26), (⟨1, 100, 1500⟩ : S26)]) = some ((⟨#[114, 111, 117, 110, 100, 105, 110, 103, 32, 104, 97, 108, 102, 45, 117, 112, 10, 99, 108, 97, 115, 115, 32, 49, 32, 102, 114, 111, 109, 32, 48, 32, 97, 116, 32, 49, 48, 48, 48, 10, 99, 108, 97, 115, 115, 32, 49, 32, 102, 114, 111, 109, 32, 49, 48, 48, 32, 97, 116, 32, 49, 53, 48, 48, 10]⟩ : ByteArray), 0) from by kernel_rfl); have A13 := Aside0.mk (show (tariff_Parse.f 400 (⟨#[114, 111, 117, 110, 100, 105, 110, 103, 32, 117, 112, 10, 99, 108, 97, 115, 115, 32, 50, 32, 102, 114, 111, 109, 32, 55, 32, 97, 116, 32, 57, 10]⟩ : ByteArray)) = some (2, [(⟨2, 7, 9⟩ : S26)], (-1), 0) from by kernel_rfl); have A14 := Aside0.mk (show (spilelaw46_example.f) = some (3, [(⟨1, 0, 1000⟩ : S26), (⟨1, 100, 1500⟩ : S26)]) from by kernel_rfl); have A15 := Aside0.mk (show (tariff_Insert.f 400 3 [(⟨1, 0, 1000⟩ : S26), (⟨1, 100, 1500⟩ : S26)] 1 50 7) = some (3, [(⟨1, 0, 1000⟩ : S26), (⟨1, 50, 7⟩ : S26), (⟨1, 100, 1500⟩ : S26)], 0) from by kernel_rfl); have A16 := Aside0.mk (show (spilelaw46_example.f) = some (3, [(⟨1, 0, 1000⟩ : S26), (⟨1, 100, 1500⟩ : S26)]) from by kernel_rfl); have A17 := Aside0.mk (show (tariff_At.f 400 3 [(⟨1, 0, 1000⟩ : S26), (⟨1, 100, 1500⟩ : S26)] 1 99) = some (1, 0, 1000, 0) from by kernel_rfl); have A18 := Aside0.mk (show (spilelaw46_example.f) = some (3, [(⟨1, 0, 1000⟩ : S26), (⟨1, 100, 1500⟩ : S26)]) from by kernel_rfl); have A19 := Aside0.mk (show (tariff_Check.f 400 3 [(⟨1, 0, 1000⟩ : S26), (⟨1, 100, 1500⟩ : S26)]) = some ((-1), 0) from by kernel_rfl); obtain ⟨y245, hy245⟩ : ∃ y_ : List Int, y_ = (([100] : List Int)) := ⟨_, rfl⟩; have Ny245 := Aside0.mk hy245; clear hy245; have A20 := Aside0.mk (show (slices_Equal_int_int.f 400 ([100] : List Int) y245) = some true from by (try rw [Ny245.out]); kernel_rfl); obtain ⟨y248, hy248⟩ : ∃ y_ : List (S26), y_ = (([(⟨2, 7, 9⟩ : S26)] : List (S26))) := ⟨_, rfl⟩; have Ny248 := Aside0.mk hy248; clear hy248; have A21 := Aside0.mk (show (spileref46_Same.f 400 2 [(⟨2, 7, 9⟩ : S26)] 2 y248) = some true from by (try rw [Ny248.out]); kernel_rfl); by_cases c22 : ([(⟨1, 0, 1000⟩ : S26), (⟨1, 50, 7⟩ : S26), (⟨1, 100, 1500⟩ : S26)].length : Int) = 3
 ·
  rw [if_pos c22] at H; have c22b0 : (([(⟨1, 0, 1000⟩ : S26), (⟨1, 50, 7⟩ : S26), (⟨1, 100, 1500⟩ : S26)].length : Int) == 3) = true := beq_iff_eq.mpr c22; have c22b1 : (([(⟨1, 0, 1000⟩ : S26), (⟨1, 50, 7⟩ : S26), (⟨1, 100, 1500⟩ : S26)].length : Int) != 3) = false := bne_eq_false_iff_eq.mpr c22; clear c22; by_cases c23 : 1 < ([(⟨1, 0, 1000⟩ : S26), (⟨1, 50, 7⟩ : S26), (⟨1, 100, 1500⟩ : S26)].length : Int)
  ·
   rw [if_pos c23] at H; have c23b0 : decide (1 < ([(⟨1, 0, 1000⟩ : S26), (⟨1, 50, 7⟩ : S26), (⟨1, 100, 1500⟩ : S26)].length : Int)) = true := decide_eq_true c23; have c23b1 : decide (1 < [(⟨1, 0, 1000⟩ : S26), (⟨1, 50, 7⟩ : S26), (⟨1, 100, 1500⟩ : S26)].length) = true := decide_eq_true (by omega); clear c23; by_cases c24 : ((rd_T26 [(⟨1, 0, 1000⟩ : S26), (⟨1, 50, 7⟩ : S26), (⟨1, 100, 1500⟩ : S26)] 1).f2) = 7
   ·
    rw [if_pos c24] at H; have c24b0 : (((rd_T26 [(⟨1, 0, 1000⟩ : S26), (⟨1, 50, 7⟩ : S26), (⟨1, 100, 1500⟩ : S26)] 1).f2) == 7) = true := beq_iff_eq.mpr c24; have c24b1 : (((rd_T26 [(⟨1, 0, 1000⟩ : S26), (⟨1, 50, 7⟩ : S26), (⟨1, 100, 1500⟩ : S26)] 1).f2) != 7) = false := bne_eq_false_iff_eq.mpr c24; clear c24; obtain rfl := Option.some.inj H; go_enter Tryz.func11, Tryz.ntmps11
    try simp only [List.append_eq, List.cons_append, List.nil_append]
    go_wp2_with (first | ((with_reducible refine gate_callee (f := 34) rfl ?_); refine goesL_ (some 23) rfl rfl Tryz.func34 (by kernel_rfl) rfl #[] rfl (by (try simp only [List.map_toArray, List.map_cons, List.map_nil]); first | done | rfl | (simp only [List.length_drop, List.length_take]; rfl)) ?_; (with_reducible refine (spilelaw46_example.calls  3 [(⟨1, 0, 1000⟩ : S26), (⟨1, 100, 1500⟩ : S26)] _ A1.out).mono ?_); rintro e w25 ⟨v217, rfl, ho0, hb⟩; refine ⟨_, rfl, ?_⟩; have n0_ := Aside0.mk (Kd.R_lower ho0 (below_size (eG HB.out))); have n1_ := Aside0.mk (below_step (eG HB.out) hb); clear HB; have HO218 := n0_; have HB := n1_; clear n0_ n1_; (try clear hb); (try clear hb2); (try clear hk); (try clear hi); (try clear ho0); obtain ⟨Ao26, co26, eo26⟩ := Kd.R_slice HO218.out; subst eo26) | ((with_reducible refine gate_callee (f := 26) rfl ?_); refine goesL_ (some 24) rfl rfl Tryz.func26 (by kernel_rfl) rfl #[.agg #[.int .i64 3, .slice Ao26 [(⟨1, 0, 1000⟩ : S26), (⟨1, 100, 1500⟩ : S26)].length co26], .int .i64 1, .int .i64 99, .int .i64 25000000] rfl (by (try simp only [List.map_toArray, List.map_cons, List.map_nil]); first | done | rfl | (simp only [List.length_drop, List.length_take]; rfl)) ?_; (with_reducible refine (tariff_Duty.calls 400 3 _ _ [(⟨1, 0, 1000⟩ : S26), (⟨1, 100, 1500⟩ : S26)] 1 99 25000000 2500 0 _ ?side1 ?side2 A2.out).mono ?_); (case side1 => repeat (first | exact (Kd.R_reads' HO218.out).2.2 | (with_reducible refine Kd.C_alloc ?_ _) | (with_reducible refine Kd.C_drewN ?_ _) | (with_reducible refine Kd.C_drew ?_))); (case side2 => exact (Kd.R_reads' HO218.out).2.1); rintro e w27 ⟨rfl, hb⟩; refine ⟨_, rfl, ?_⟩; have n0_ := Aside0.mk (Kd.R_below (rG HO218.out) hb); have n1_ := Aside0.mk (below_step (eG HB.out) hb); clear HO218; clear HB; have HO218 := n0_; have HB := n1_; clear n0_ n1_; (try clear hb); (try clear hb2); (try clear hk); (try clear hi)) | ((with_reducible refine gate_callee (f := 34) rfl ?_); refine goesL_ (some 28) rfl rfl Tryz.func34 (by kernel_rfl) rfl #[] rfl (by (try simp only [List.map_toArray, List.map_cons, List.map_nil]); first | done | rfl | (simp only [List.length_drop, List.length_take]; rfl)) ?_; (with_reducible refine (spilelaw46_example.calls  3 [(⟨1, 0, 1000⟩ : S26), (⟨1, 100, 1500⟩ : S26)] _ A3.out).mono ?_); rintro e w28 ⟨v219, rfl, ho0, hb⟩; refine ⟨_, rfl, ?_⟩; have n0_ := Aside0.mk (Kd.R_elder' (rG HO218.out) (Kd.R_base ho0) hb); have n1_ := Aside0.mk (Kd.R_lower (Kd.R_new' ho0 (Kd.R_lt (rG HO218.out))) (below_size (eG HB.out))); have n2_ := Aside0.mk (below_step (eG HB.out) hb); clear HO218; clear HB; have HO218 := n0_; have HO220 := n1_; have HB := n2_; clear n0_ n1_ n2_; (try clear hb); (try clear hb2); (try clear hk); (try clear hi); (try clear ho0); obtain ⟨Ao29, co29, eo29⟩ := Kd.R_slice HO220.out; subst eo29) | ((with_reducible refine gate_callee (f := 26) rfl ?_); refine goesL_ (some 29) rfl rfl Tryz.func26 (by kernel_rfl) rfl #[.agg #[.int .i64 3, .slice Ao29 [(⟨1, 0, 1000⟩ : S26), (⟨1, 100, 1500⟩ : S26)].length co29], .int .i64 1, .int .i64 100, .int .i64 25000000] rfl (by (try simp only [List.map_toArray, List.map_cons, List.map_nil]); first | done | rfl | (simp only [List.length_drop, List.length_take]; rfl)) ?_; (with_reducible refine (tariff_Duty.calls 400 3 _ _ [(⟨1, 0, 1000⟩ : S26), (⟨1, 100, 1500⟩ : S26)] 1 100 25000000 3750 0 _ ?side1 ?side2 A4.out).mono ?_); (case side1 => repeat (first | exact (Kd.R_reads' HO220.out).2.2 | (with_reducible refine Kd.C_alloc ?_ _) | (with_reducible refine Kd.C_drewN ?_ _) | (with_reducible refine Kd.C_drew ?_))); (case side2 => exact (Kd.R_reads' HO220.out).2.1); rintro e w30 ⟨rfl, hb⟩; refine ⟨_, rfl, ?_⟩; have n0_ := Aside0.mk (Kd.R_below (rG HO218.out) hb); have n1_ := Aside0.mk (Kd.R_below (rG HO220.out) hb); have n2_ := Aside0.mk (below_step (eG HB.out) hb); clear HO218; clear HO220; clear HB; have HO218 := n0_; have HO220 := n1_; have HB := n2_; clear n0_ n1_ n2_; (try clear hb); (try clear hb2); (try clear hk); (try clear hi)) | ((with_reducible refine gate_callee (f := 34) rfl ?_); refine goesL_ (some 33) rfl rfl Tryz.func34 (by kernel_rfl) rfl #[] rfl (by (try simp only [List.map_toArray, List.map_cons, List.map_nil]); first | done | rfl | (simp only [List.length_drop, List.length_take]; rfl)) ?_; (with_reducible refine (spilelaw46_example.calls  3 [(⟨1, 0, 1000⟩ : S26), (⟨1, 100, 1500⟩ : S26)] _ A5.out).mono ?_); rintro e w31 ⟨v221, rfl, ho0, hb⟩; refine ⟨_, rfl, ?_⟩; have n0_ := Aside0.mk (Kd.R_elder' (rG HO218.out) (Kd.R_base ho0) hb); have n1_ := Aside0.mk (Kd.R_elder' (rG HO220.out) (Kd.R_base ho0) hb); have n2_ := Aside0.mk (Kd.R_lower (Kd.R_new' (Kd.R_new' ho0 (Kd.R_lt (rG HO218.out))) (Kd.R_lt (rG HO220.out))) (below_size (eG HB.out))); have n3_ := Aside0.mk (below_step (eG HB.out) hb); clear HO218; clear HO220; clear HB; have HO218 := n0_; have HO220 := n1_; have HO222 := n2_; have HB := n3_; clear n0_ n1_ n2_ n3_; (try clear hb); (try clear hb2); (try clear hk); (try clear hi); (try clear ho0); obtain ⟨Ao32, co32, eo32⟩ := Kd.R_slice HO222.out; subst eo32) | ((with_reducible refine gate_callee (f := 26) rfl ?_); refine goesL_ (some 34) rfl rfl Tryz.func26 (by kernel_rfl) rfl #[.agg #[.int .i64 3, .slice Ao32 [(⟨1, 0, 1000⟩ : S26), (⟨1, 100, 1500⟩ : S26)].length co32], .int .i64 1, .int .i64 0, .int .i64 5000] rfl (by (try simp only [List.map_toArray, List.map_cons, List.map_nil]); first | done | rfl | (simp only [List.length_drop, List.length_take]; rfl)) ?_; (with_reducible refine (tariff_Duty.calls 400 3 _ _ [(⟨1, 0, 1000⟩ : S26), (⟨1, 100, 1500⟩ : S26)] 1 0 5000 1 0 _ ?side1 ?side2 A6.out).mono ?_); (case side1 => repeat (first | exact (Kd.R_reads' HO222.out).2.2 | (with_reducible refine Kd.C_alloc ?_ _) | (with_reducible refine Kd.C_drewN ?_ _) | (with_reducible refine Kd.C_drew ?_))); (case side2 => exact (Kd.R_reads' HO222.out).2.1); rintro e w33 ⟨rfl, hb⟩; refine ⟨_, rfl, ?_⟩; have n0_ := Aside0.mk (Kd.R_below (rG HO218.out) hb); have n1_ := Aside0.mk (Kd.R_below (rG HO220.out) hb); have n2_ := Aside0.mk (Kd.R_below (rG HO222.out) hb); have n3_ := Aside0.mk (below_step (eG HB.out) hb); clear HO218; clear HO220; clear HO222; clear HB; have HO218 := n0_; have HO220 := n1_; have HO222 := n2_; have HB := n3_; clear n0_ n1_ n2_ n3_; (try clear hb); (try clear hb2); (try clear hk); (try clear hi)) | ((with_reducible refine gate_callee (f := 34) rfl ?_); refine goesL_ (some 38) rfl rfl Tryz.func34 (by kernel_rfl) rfl #[] rfl (by (try simp only [List.map_toArray, List.map_cons, List.map_nil]); first | done | rfl | (simp only [List.length_drop, List.length_take]; rfl)) ?_; (with_reducible refine (spilelaw46_example.calls  3 [(⟨1, 0, 1000⟩ : S26), (⟨1, 100, 1500⟩ : S26)] _ A7.out).mono ?_); rintro e w34 ⟨v223, rfl, ho0, hb⟩; refine ⟨_, rfl, ?_⟩; have n0_ := Aside0.mk (Kd.R_elder' (rG HO218.out) (Kd.R_base ho0) hb); have n1_ := Aside0.mk (Kd.R_elder' (rG HO220.out) (Kd.R_base ho0) hb); have n2_ := Aside0.mk (Kd.R_elder' (rG HO222.out) (Kd.R_base ho0) hb); have n3_ := Aside0.mk (Kd.R_lower (Kd.R_new' (Kd.R_new' (Kd.R_new' ho0 (Kd.R_lt (rG HO218.out))) (Kd.R_lt (rG HO220.out))) (Kd.R_lt (rG HO222.out))) (below_size (eG HB.out))); have n4_ := Aside0.mk (below_step (eG HB.out) hb); clear HO218; clear HO220; clear HO222; clear HB; have HO218 := n0_; have HO220 := n1_; have HO222 := n2_; have HO224 := n3_; have HB := n4_; clear n0_ n1_ n2_ n3_ n4_; (try clear hb); (try clear hb2); (try clear hk); (try clear hi); (try clear ho0); obtain ⟨Ao35, co35, eo35⟩ := Kd.R_slice HO224.out; subst eo35) | ((with_reducible refine gate_callee (f := 21) rfl ?_); refine goesL_ (some 39) rfl rfl Tryz.func21 (by kernel_rfl) rfl #[.agg #[.int .i64 3, .slice Ao35 [(⟨1, 0, 1000⟩ : S26), (⟨1, 100, 1500⟩ : S26)].length co35], .int .i64 1, .int .i64 50, .int .i64 100] rfl (by (try simp only [List.map_toArray, List.map_cons, List.map_nil]); first | done | rfl | (simp only [List.length_drop, List.length_take]; rfl)) ?_; (with_reducible refine (tariff_Greatest.calls 400 3 _ _ [(⟨1, 0, 1000⟩ : S26), (⟨1, 100, 1500⟩ : S26)] 1 50 100 1 100 1500 0 _ ?side1 ?side2 A8.out).mono ?_); (case side1 => repeat (first | exact (Kd.R_reads' HO224.out).2.2 | (with_reducible refine Kd.C_alloc ?_ _) | (with_reducible refine Kd.C_drewN ?_ _) | (with_reducible refine Kd.C_drew ?_))); (case side2 => exact (Kd.R_reads' HO224.out).2.1); rintro e w36 ⟨rfl, hb⟩; refine ⟨_, rfl, ?_⟩; have n0_ := Aside0.mk (Kd.R_below (rG HO218.out) hb); have n1_ := Aside0.mk (Kd.R_below (rG HO220.out) hb); have n2_ := Aside0.mk (Kd.R_below (rG HO222.out) hb); have n3_ := Aside0.mk (Kd.R_below (rG HO224.out) hb); have n4_ := Aside0.mk (below_step (eG HB.out) hb); clear HO218; clear HO220; clear HO222; clear HO224; clear HB; have HO218 := n0_; have HO220 := n1_; have HO222 := n2_; have HO224 := n3_; have HB := n4_; clear n0_ n1_ n2_ n3_ n4_; (try clear hb); (try clear hb2); (try clear hk); (try clear hi)) | ((with_reducible refine gate_dst (N := 7) rfl ?_); (try (refine gate_guard (by rfl) ?_; dsimp only)); refine box_event ?hg (N := 7) ?hd (cs := #[.int .i64 0, .int .i64 0, .int .i64 0]) (t := 26) ?hr ?_; (case hd => rfl); (case hg => rfl); (case hr => first | (go_simp; done) | (go_simp; rfl)); intro gb225 hg w37 hbox hb; have n0_ := Aside0.mk (Kd.R_below (Kd.R_elderB (rG HO218.out) gb225 (Nat.le_of_eq hg.symm)) hb); have n1_ := Aside0.mk (Kd.R_below (Kd.R_elderB (rG HO220.out) gb225 (Nat.le_of_eq hg.symm)) hb); have n2_ := Aside0.mk (Kd.R_below (Kd.R_elderB (rG HO222.out) gb225 (Nat.le_of_eq hg.symm)) hb); have n3_ := Aside0.mk (Kd.R_below (Kd.R_elderB (rG HO224.out) gb225 (Nat.le_of_eq hg.symm)) hb); have n4_ := Aside0.mk (below_step (eG HB.out) hb); have n5_ := Aside0.mk (hbox); have n6_ := Aside0.mk ((by rw [hg]; exact (below_size (eG HB.out)) : w.heap.size ≤ gb225)); have n7_ := Aside0.mk ((by rw [hg]; exact (below_size (eG HB.out)) : w.heap.size ≤ gb225)); clear HO218; clear HO220; clear HO222; clear HO224; clear HB; have HO218 := n0_; have HO220 := n1_; have HO222 := n2_; have HO224 := n3_; have HB := n4_; have BK225 := n5_; have GW225 := n6_; have GE225 := n7_; have ig225_ := geI GE225; clear n0_ n1_ n2_ n3_ n4_ n5_ n6_ n7_; clear hb hbox hg; have hcz38_0 : w37.cell? ⟨gb225, 0, none⟩ = some (.int .i64 0) := (blk_cell BK225.out 0).trans rfl; have hcz38_1 : w37.cell? ⟨gb225, 1, none⟩ = some (.int .i64 0) := (blk_cell BK225.out 1).trans rfl; have hcz38_2 : w37.cell? ⟨gb225, 2, none⟩ = some (.int .i64 0) := (blk_cell BK225.out 2).trans rfl; have hfz38_0 := blk_frozen BK225.out 0; have hfz38_1 := blk_frozen BK225.out 1; have hfz38_2 := blk_frozen BK225.out 2) | ((with_reducible refine gate_callee (f := 34) rfl ?_); refine goesL_ (some 43) rfl rfl Tryz.func34 (by kernel_rfl) rfl #[] rfl (by (try simp only [List.map_toArray, List.map_cons, List.map_nil]); first | done | rfl | (simp only [List.length_drop, List.length_take]; rfl)) ?_; (with_reducible refine (spilelaw46_example.calls  3 [(⟨1, 0, 1000⟩ : S26), (⟨1, 100, 1500⟩ : S26)] _ A9.out).mono ?_); rintro e w39 ⟨v226, rfl, ho0, hb⟩; refine ⟨_, rfl, ?_⟩; have n0_ := Aside0.mk (Kd.R_elder' (by (with_reducible repeat (first | apply Kd.R_alloc | apply Kd.R_drewN | apply Kd.R_drew)); exact (Kd.R_mono (Kd.R_far (p := ⟨gb225, 2, none⟩) (Kd.R_far (p := ⟨gb225, 1, none⟩) (Kd.R_far (p := ⟨gb225, 0, none⟩) (Kd.R_mono HO218.out (fun k_ hk => (⟨hk, hk.2⟩ : _ ∧ k_ ≠ gb225))) (fun _ hk => hk.2) (.int .i64 1)) (fun _ hk => hk.2) (.int .i64 100)) (fun _ hk => hk.2) (.int .i64 1500)) (fun _ h_ => h_.1))) (Kd.R_base ho0) hb); have n1_ := Aside0.mk (Kd.R_elder' (by (with_reducible repeat (first | apply Kd.R_alloc | apply Kd.R_drewN | apply Kd.R_drew)); exact (Kd.R_mono (Kd.R_far (p := ⟨gb225, 2, none⟩) (Kd.R_far (p := ⟨gb225, 1, none⟩) (Kd.R_far (p := ⟨gb225, 0, none⟩) (Kd.R_mono HO220.out (fun k_ hk => (⟨hk, hk.2⟩ : _ ∧ k_ ≠ gb225))) (fun _ hk => hk.2) (.int .i64 1)) (fun _ hk => hk.2) (.int .i64 100)) (fun _ hk => hk.2) (.int .i64 1500)) (fun _ h_ => h_.1))) (Kd.R_base ho0) hb); have n2_ := Aside0.mk (Kd.R_elder' (by (with_reducible repeat (first | apply Kd.R_alloc | apply Kd.R_drewN | apply Kd.R_drew)); exact (Kd.R_mono (Kd.R_far (p := ⟨gb225, 2, none⟩) (Kd.R_far (p := ⟨gb225, 1, none⟩) (Kd.R_far (p := ⟨gb225, 0, none⟩) (Kd.R_mono HO222.out (fun k_ hk => (⟨hk, hk.2⟩ : _ ∧ k_ ≠ gb225))) (fun _ hk => hk.2) (.int .i64 1)) (fun _ hk => hk.2) (.int .i64 100)) (fun _ hk => hk.2) (.int .i64 1500)) (fun _ h_ => h_.1))) (Kd.R_base ho0) hb); have n3_ := Aside0.mk (Kd.R_elder' (by (with_reducible repeat (first | apply Kd.R_alloc | apply Kd.R_drewN | apply Kd.R_drew)); exact (Kd.R_mono (Kd.R_far (p := ⟨gb225, 2, none⟩) (Kd.R_far (p := ⟨gb225, 1, none⟩) (Kd.R_far (p := ⟨gb225, 0, none⟩) (Kd.R_mono HO224.out (fun k_ hk => (⟨hk, hk.2⟩ : _ ∧ k_ ≠ gb225))) (fun _ hk => hk.2) (.int .i64 1)) (fun _ hk => hk.2) (.int .i64 100)) (fun _ hk => hk.2) (.int .i64 1500)) (fun _ h_ => h_.1))) (Kd.R_base ho0) hb); have n4_ := Aside0.mk (Kd.R_lower (Kd.R_newB (Kd.R_new' (Kd.R_new' (Kd.R_new' (Kd.R_new' ho0 (Kd.R_lt (by (with_reducible repeat (first | apply Kd.R_alloc | apply Kd.R_drewN | apply Kd.R_drew)); exact (Kd.R_mono (Kd.R_far (p := ⟨gb225, 2, none⟩) (Kd.R_far (p := ⟨gb225, 1, none⟩) (Kd.R_far (p := ⟨gb225, 0, none⟩) (Kd.R_mono HO218.out (fun k_ hk => (⟨hk, hk.2⟩ : _ ∧ k_ ≠ gb225))) (fun _ hk => hk.2) (.int .i64 1)) (fun _ hk => hk.2) (.int .i64 100)) (fun _ hk => hk.2) (.int .i64 1500)) (fun _ h_ => h_.1))))) (Kd.R_lt (by (with_reducible repeat (first | apply Kd.R_alloc | apply Kd.R_drewN | apply Kd.R_drew)); exact (Kd.R_mono (Kd.R_far (p := ⟨gb225, 2, none⟩) (Kd.R_far (p := ⟨gb225, 1, none⟩) (Kd.R_far (p := ⟨gb225, 0, none⟩) (Kd.R_mono HO220.out (fun k_ hk => (⟨hk, hk.2⟩ : _ ∧ k_ ≠ gb225))) (fun _ hk => hk.2) (.int .i64 1)) (fun _ hk => hk.2) (.int .i64 100)) (fun _ hk => hk.2) (.int .i64 1500)) (fun _ h_ => h_.1))))) (Kd.R_lt (by (with_reducible repeat (first | apply Kd.R_alloc | apply Kd.R_drewN | apply Kd.R_drew)); exact (Kd.R_mono (Kd.R_far (p := ⟨gb225, 2, none⟩) (Kd.R_far (p := ⟨gb225, 1, none⟩) (Kd.R_far (p := ⟨gb225, 0, none⟩) (Kd.R_mono HO222.out (fun k_ hk => (⟨hk, hk.2⟩ : _ ∧ k_ ≠ gb225))) (fun _ hk => hk.2) (.int .i64 1)) (fun _ hk => hk.2) (.int .i64 100)) (fun _ hk => hk.2) (.int .i64 1500)) (fun _ h_ => h_.1))))) (Kd.R_lt (by (with_reducible repeat (first | apply Kd.R_alloc | apply Kd.R_drewN | apply Kd.R_drew)); exact (Kd.R_mono (Kd.R_far (p := ⟨gb225, 2, none⟩) (Kd.R_far (p := ⟨gb225, 1, none⟩) (Kd.R_far (p := ⟨gb225, 0, none⟩) (Kd.R_mono HO224.out (fun k_ hk => (⟨hk, hk.2⟩ : _ ∧ k_ ≠ gb225))) (fun _ hk => hk.2) (.int .i64 1)) (fun _ hk => hk.2) (.int .i64 100)) (fun _ hk => hk.2) (.int .i64 1500)) (fun _ h_ => h_.1))))) (g := gb225) (o := .cells #[.int .i64 1, .int .i64 100, .int .i64 1500] 26 (0, 0)) (by (with_reducible repeat first | apply bN | apply bD | apply bA); refine blk_put (cs := #[.int .i64 1, .int .i64 100, .int .i64 0]) ?_ 2 _ rfl; (with_reducible repeat first | apply bN | apply bD | apply bA); refine blk_put (cs := #[.int .i64 1, .int .i64 0, .int .i64 0]) ?_ 1 _ rfl; (with_reducible repeat first | apply bN | apply bD | apply bA); refine blk_put (cs := #[.int .i64 0, .int .i64 0, .int .i64 0]) ?_ 0 _ rfl; (with_reducible repeat first | apply bN | apply bD | apply bA); exact BK225.out)) (below_size (eG HB.out))); have n5_ := Aside0.mk (blk_below (g := gb225) (o := .cells #[.int .i64 1, .int .i64 100, .int .i64 1500] 26 (0, 0)) (by (with_reducible repeat first | apply bN | apply bD | apply bA); refine blk_put (cs := #[.int .i64 1, .int .i64 100, .int .i64 0]) ?_ 2 _ rfl; (with_reducible repeat first | apply bN | apply bD | apply bA); refine blk_put (cs := #[.int .i64 1, .int .i64 0, .int .i64 0]) ?_ 1 _ rfl; (with_reducible repeat first | apply bN | apply bD | apply bA); refine blk_put (cs := #[.int .i64 0, .int .i64 0, .int .i64 0]) ?_ 0 _ rfl; (with_reducible repeat first | apply bN | apply bD | apply bA); exact BK225.out) hb); have n6_ := Aside0.mk (below_step (eG HB.out) hb); clear HO218; clear HO220; clear HO222; clear HO224; clear BK225; clear HB; have HO218 := n0_; have HO220 := n1_; have HO222 := n2_; have HO224 := n3_; have HO227 := n4_; have BK225 := n5_; have HB := n6_; clear n0_ n1_ n2_ n3_ n4_ n5_ n6_; (try clear hb); (try clear hb2); (try clear hk); (try clear hi); (try clear ho0); obtain ⟨Ao40, co40, eo40⟩ := Kd.R_slice HO227.out; subst eo40) | ((with_reducible refine gate_callee (f := 23) rfl ?_); refine goesL_ (some 44) rfl rfl Tryz.func23 (by kernel_rfl) rfl #[.agg #[.int .i64 3, .slice Ao40 [(⟨1, 0, 1000⟩ : S26), (⟨1, 100, 1500⟩ : S26)].length co40], .int .i64 1, .int .i64 50, .int .i64 100] rfl (by (try simp only [List.map_toArray, List.map_cons, List.map_nil]); first | done | rfl | (simp only [List.length_drop, List.length_take]; rfl)) ?_; (with_reducible refine (tariff_Changes.calls 400 3 _ _ [(⟨1, 0, 1000⟩ : S26), (⟨1, 100, 1500⟩ : S26)] 1 50 100 ([100] : List Int) 0 _ ?side1 ?side2 A10.out).mono ?_); (case side1 => repeat (first | exact (Kd.R_reads' HO227.out).2.2 | (with_reducible refine Kd.C_alloc ?_ _) | (with_reducible refine Kd.C_drewN ?_ _) | (with_reducible refine Kd.C_drew ?_))); (case side2 => exact (Kd.R_reads' HO227.out).2.1); rintro e w41 ⟨v228, rfl, ho0, hb⟩; refine ⟨_, rfl, ?_⟩; have n0_ := Aside0.mk (Kd.R_below (rG HO218.out) hb); have n1_ := Aside0.mk (Kd.R_below (rG HO220.out) hb); have n2_ := Aside0.mk (Kd.R_below (rG HO222.out) hb); have n3_ := Aside0.mk (Kd.R_below (rG HO224.out) hb); have n4_ := Aside0.mk (Kd.R_below (rG HO227.out) hb); have n5_ := Aside0.mk (Kd.R_lower ho0 (below_size (eG HB.out))); have n6_ := Aside0.mk (blk_below (bG BK225.out) hb); have n7_ := Aside0.mk (below_step (eG HB.out) hb); clear HO218; clear HO220; clear HO222; clear HO224; clear HO227; clear BK225; clear HB; have HO218 := n0_; have HO220 := n1_; have HO222 := n2_; have HO224 := n3_; have HO227 := n4_; have HO229 := n5_; have BK225 := n6_; have HB := n7_; clear n0_ n1_ n2_ n3_ n4_ n5_ n6_ n7_; (try clear hb); (try clear hb2); (try clear hk); (try clear hi); (try clear ho0)) | ((with_reducible refine gate_callee (f := 34) rfl ?_); refine goesL_ (some 48) rfl rfl Tryz.func34 (by kernel_rfl) rfl #[] rfl (by (try simp only [List.map_toArray, List.map_cons, List.map_nil]); first | done | rfl | (simp only [List.length_drop, List.length_take]; rfl)) ?_; (with_reducible refine (spilelaw46_example.calls  3 [(⟨1, 0, 1000⟩ : S26), (⟨1, 100, 1500⟩ : S26)] _ A11.out).mono ?_); rintro e w42 ⟨v230, rfl, ho0, hb⟩; refine ⟨_, rfl, ?_⟩; have n0_ := Aside0.mk (Kd.R_elder' (rG HO218.out) (Kd.R_base ho0) hb); have n1_ := Aside0.mk (Kd.R_elder' (rG HO220.out) (Kd.R_base ho0) hb); have n2_ := Aside0.mk (Kd.R_elder' (rG HO222.out) (Kd.R_base ho0) hb); have n3_ := Aside0.mk (Kd.R_elder' (rG HO224.out) (Kd.R_base ho0) hb); have n4_ := Aside0.mk (Kd.R_elder' (rG HO227.out) (Kd.R_base ho0) hb); have n5_ := Aside0.mk (Kd.R_below (rG HO229.out) hb); have n6_ := Aside0.mk (Kd.R_lower (Kd.R_newB (Kd.R_new' (Kd.R_new' (Kd.R_new' (Kd.R_new' (Kd.R_new' ho0 (Kd.R_lt (rG HO218.out))) (Kd.R_lt (rG HO220.out))) (Kd.R_lt (rG HO222.out))) (Kd.R_lt (rG HO224.out))) (Kd.R_lt (rG HO227.out))) (bG BK225.out)) (below_size (eG HB.out))); have n7_ := Aside0.mk (blk_below (bG BK225.out) hb); have n8_ := Aside0.mk (below_step (eG HB.out) hb); clear HO218; clear HO220; clear HO222; clear HO224; clear HO227; clear HO229; clear BK225; clear HB; have HO218 := n0_; have HO220 := n1_; have HO222 := n2_; have HO224 := n3_; have HO227 := n4_; have HO229 := n5_; have HO231 := n6_; have BK225 := n7_; have HB := n8_; clear n0_ n1_ n2_ n3_ n4_ n5_ n6_ n7_ n8_; (try clear hb); (try clear hb2); (try clear hk); (try clear hi); (try clear ho0); obtain ⟨Ao43, co43, eo43⟩ := Kd.R_slice HO231.out; subst eo43) | ((with_reducible refine gate_callee (f := 28) rfl ?_); refine goesL_ (some 49) rfl rfl Tryz.func28 (by kernel_rfl) rfl #[.agg #[.int .i64 3, .slice Ao43 [(⟨1, 0, 1000⟩ : S26), (⟨1, 100, 1500⟩ : S26)].length co43]] rfl (by (try simp only [List.map_toArray, List.map_cons, List.map_nil]); first | done | rfl | (simp only [List.length_drop, List.length_take]; rfl)) ?_; (with_reducible refine (tariff_Print.calls 400 3 _ _ [(⟨1, 0, 1000⟩ : S26), (⟨1, 100, 1500⟩ : S26)] (⟨#[114, 111, 117, 110, 100, 105, 110, 103, 32, 104, 97, 108, 102, 45, 117, 112, 10, 99, 108, 97, 115, 115, 32, 49, 32, 102, 114, 111, 109, 32, 48, 32, 97, 116, 32, 49, 48, 48, 48, 10, 99, 108, 97, 115, 115, 32, 49, 32, 102, 114, 111, 109, 32, 49, 48, 48, 32, 97, 116, 32, 49, 53, 48, 48, 10]⟩ : ByteArray) 0 _ ?side1 ?side2 ?side3 A12.out).mono ?_); (case side1 => repeat (first | exact (Kd.R_reads' HO231.out).2.2 | (with_reducible refine Kd.C_alloc ?_ _) | (with_reducible refine Kd.C_drewN ?_ _) | (with_reducible refine Kd.C_drew ?_))); (case side2 => exact (Kd.R_reads' HO231.out).2.1); (case side3 => exact GI.below HG.out (eG HB.out)); rintro e w44 ⟨rfl, hb⟩; refine ⟨_, rfl, ?_⟩; have n0_ := Aside0.mk (Kd.R_below (rG HO218.out) hb); have n1_ := Aside0.mk (Kd.R_below (rG HO220.out) hb); have n2_ := Aside0.mk (Kd.R_below (rG HO222.out) hb); have n3_ := Aside0.mk (Kd.R_below (rG HO224.out) hb); have n4_ := Aside0.mk (Kd.R_below (rG HO227.out) hb); have n5_ := Aside0.mk (Kd.R_below (rG HO229.out) hb); have n6_ := Aside0.mk (Kd.R_below (rG HO231.out) hb); have n7_ := Aside0.mk (blk_below (bG BK225.out) hb); have n8_ := Aside0.mk (below_step (eG HB.out) hb); clear HO218; clear HO220; clear HO222; clear HO224; clear HO227; clear HO229; clear HO231; clear BK225; clear HB; have HO218 := n0_; have HO220 := n1_; have HO222 := n2_; have HO224 := n3_; have HO227 := n4_; have HO229 := n5_; have HO231 := n6_; have BK225 := n7_; have HB := n8_; clear n0_ n1_ n2_ n3_ n4_ n5_ n6_ n7_ n8_; (try clear hb); (try clear hb2); (try clear hk); (try clear hi)) | ((with_reducible refine gate_callee (f := 30) rfl ?_); refine goesL_ (some 53) rfl rfl Tryz.func30 (by kernel_rfl) rfl #[.string (⟨#[114, 111, 117, 110, 100, 105, 110, 103, 32, 117, 112, 10, 99, 108, 97, 115, 115, 32, 50, 32, 102, 114, 111, 109, 32, 55, 32, 97, 116, 32, 57, 10]⟩ : ByteArray)] rfl (by (try simp only [List.map_toArray, List.map_cons, List.map_nil]); first | done | rfl | (simp only [List.length_drop, List.length_take]; rfl)) ?_; (with_reducible refine (tariff_Parse.calls 400 (⟨#[114, 111, 117, 110, 100, 105, 110, 103, 32, 117, 112, 10, 99, 108, 97, 115, 115, 32, 50, 32, 102, 114, 111, 109, 32, 55, 32, 97, 116, 32, 57, 10]⟩ : ByteArray) 2 [(⟨2, 7, 9⟩ : S26)] (-1) 0 _ ?side1 A13.out).mono ?_); (case side1 => exact GI.below HG.out (eG HB.out)); rintro e w45 ⟨v232, rfl, ho0, hb⟩; refine ⟨_, rfl, ?_⟩; have n0_ := Aside0.mk (Kd.R_elder' (rG HO218.out) (Kd.R_base ho0) hb); have n1_ := Aside0.mk (Kd.R_elder' (rG HO220.out) (Kd.R_base ho0) hb); have n2_ := Aside0.mk (Kd.R_elder' (rG HO222.out) (Kd.R_base ho0) hb); have n3_ := Aside0.mk (Kd.R_elder' (rG HO224.out) (Kd.R_base ho0) hb); have n4_ := Aside0.mk (Kd.R_elder' (rG HO227.out) (Kd.R_base ho0) hb); have n5_ := Aside0.mk (Kd.R_below (rG HO229.out) hb); have n6_ := Aside0.mk (Kd.R_elder' (rG HO231.out) (Kd.R_base ho0) hb); have n7_ := Aside0.mk (Kd.R_lower (Kd.R_newB (Kd.R_new' (Kd.R_new' (Kd.R_new' (Kd.R_new' (Kd.R_new' (Kd.R_new' ho0 (Kd.R_lt (rG HO218.out))) (Kd.R_lt (rG HO220.out))) (Kd.R_lt (rG HO222.out))) (Kd.R_lt (rG HO224.out))) (Kd.R_lt (rG HO227.out))) (Kd.R_lt (rG HO231.out))) (bG BK225.out)) (below_size (eG HB.out))); have n8_ := Aside0.mk (blk_below (bG BK225.out) hb); have n9_ := Aside0.mk (below_step (eG HB.out) hb); clear HO218; clear HO220; clear HO222; clear HO224; clear HO227; clear HO229; clear HO231; clear BK225; clear HB; have HO218 := n0_; have HO220 := n1_; have HO222 := n2_; have HO224 := n3_; have HO227 := n4_; have HO229 := n5_; have HO231 := n6_; have HO233 := n7_; have BK225 := n8_; have HB := n9_; clear n0_ n1_ n2_ n3_ n4_ n5_ n6_ n7_ n8_ n9_; (try clear hb); (try clear hb2); (try clear hk); (try clear hi); (try clear ho0)) | ((with_reducible refine gate_dst (N := 13) rfl ?_); (try (refine gate_guard (by rfl) ?_; dsimp only)); refine box_event ?hg (N := 13) ?hd (cs := #[.int .i64 0, .slice none 0 0]) (t := 24) ?hr ?_; (case hd => rfl); (case hg => rfl); (case hr => first | (go_simp; done) | (go_simp; rfl)); intro gb234 hg w46 hbox hb; have n0_ := Aside0.mk (Kd.R_below (rG HO218.out) hb); have n1_ := Aside0.mk (Kd.R_below (rG HO220.out) hb); have n2_ := Aside0.mk (Kd.R_below (rG HO222.out) hb); have n3_ := Aside0.mk (Kd.R_below (rG HO224.out) hb); have n4_ := Aside0.mk (Kd.R_below (rG HO227.out) hb); have n5_ := Aside0.mk (Kd.R_below (rG HO229.out) hb); have n6_ := Aside0.mk (Kd.R_below (rG HO231.out) hb); have n7_ := Aside0.mk (Kd.R_below (rG HO233.out) hb); have n8_ := Aside0.mk (blk_below (bG BK225.out) hb); have n9_ := Aside0.mk (below_step (eG HB.out) hb); have n10_ := Aside0.mk (hbox); have n11_ := Aside0.mk ((by rw [hg]; exact (below_size (eG HB.out)) : w.heap.size ≤ gb234)); have n12_ := Aside0.mk ((by rw [hg]; exact (below_size (eG HB.out)) : w.heap.size ≤ gb234)); have n13_ := Aside0.mk ((by rw [hg]; exact Nat.ne_of_lt (blk_lt (bG BK225.out)) : gb225 ≠ gb234)); have n14_ := Aside0.mk ((by rw [hg]; exact Nat.ne_of_gt (blk_lt (bG BK225.out)) : gb234 ≠ gb225)); clear HO218; clear HO220; clear HO222; clear HO224; clear HO227; clear HO229; clear HO231; clear HO233; clear BK225; clear HB; have HO218 := n0_; have HO220 := n1_; have HO222 := n2_; have HO224 := n3_; have HO227 := n4_; have HO229 := n5_; have HO231 := n6_; have HO233 := n7_; have BK225 := n8_; have HB := n9_; have BK234 := n10_; have GW234 := n11_; have GE234 := n12_; have ig234_ := geI GE234; have NB225_234 := n13_; have NB234_225 := n14_; clear n0_ n1_ n2_ n3_ n4_ n5_ n6_ n7_ n8_ n9_ n10_ n11_ n12_ n13_ n14_; clear hb hbox hg; have hnb47 := NB234_225.out; have hnc47 := NB225_234.out; have hcz48_0 : w46.cell? ⟨gb234, 0, none⟩ = some (.int .i64 0) := (blk_cell BK234.out 0).trans rfl; have hcz48_1 : w46.cell? ⟨gb234, 1, none⟩ = some (.slice none 0 0) := (blk_cell BK234.out 1).trans rfl; have hfz48_0 := blk_frozen BK234.out 0; have hfz48_1 := blk_frozen BK234.out 1; obtain ⟨Ao49, co49, eo49⟩ := Kd.R_slice HO233.out; subst eo49) | ((with_reducible refine gate_callee (f := 34) rfl ?_); refine goesL_ (some 58) rfl rfl Tryz.func34 (by kernel_rfl) rfl #[] rfl (by (try simp only [List.map_toArray, List.map_cons, List.map_nil]); first | done | rfl | (simp only [List.length_drop, List.length_take]; rfl)) ?_; (with_reducible refine (spilelaw46_example.calls  3 [(⟨1, 0, 1000⟩ : S26), (⟨1, 100, 1500⟩ : S26)] _ A14.out).mono ?_); rintro e w50 ⟨v235, rfl, ho0, hb⟩; refine ⟨_, rfl, ?_⟩; have n0_ := Aside0.mk (Kd.R_elder' (by (with_reducible repeat (first | apply Kd.R_alloc | apply Kd.R_drewN | apply Kd.R_drew)); exact (Kd.R_mono (Kd.R_far (p := ⟨gb234, 1, none⟩) (Kd.R_far (p := ⟨gb234, 0, none⟩) (Kd.R_types HO218.out BK234.out (by decide)) (fun _ hk => hk.2) (.int .i64 2)) (fun _ hk => hk.2) (.slice Ao49 [(⟨2, 7, 9⟩ : S26)].length co49)) (fun _ h_ => h_.1))) (Kd.R_base ho0) hb); have n1_ := Aside0.mk (Kd.R_elder' (by (with_reducible repeat (first | apply Kd.R_alloc | apply Kd.R_drewN | apply Kd.R_drew)); exact (Kd.R_mono (Kd.R_far (p := ⟨gb234, 1, none⟩) (Kd.R_far (p := ⟨gb234, 0, none⟩) (Kd.R_types HO220.out BK234.out (by decide)) (fun _ hk => hk.2) (.int .i64 2)) (fun _ hk => hk.2) (.slice Ao49 [(⟨2, 7, 9⟩ : S26)].length co49)) (fun _ h_ => h_.1))) (Kd.R_base ho0) hb); have n2_ := Aside0.mk (Kd.R_elder' (by (with_reducible repeat (first | apply Kd.R_alloc | apply Kd.R_drewN | apply Kd.R_drew)); exact (Kd.R_mono (Kd.R_far (p := ⟨gb234, 1, none⟩) (Kd.R_far (p := ⟨gb234, 0, none⟩) (Kd.R_types HO222.out BK234.out (by decide)) (fun _ hk => hk.2) (.int .i64 2)) (fun _ hk => hk.2) (.slice Ao49 [(⟨2, 7, 9⟩ : S26)].length co49)) (fun _ h_ => h_.1))) (Kd.R_base ho0) hb); have n3_ := Aside0.mk (Kd.R_elder' (by (with_reducible repeat (first | apply Kd.R_alloc | apply Kd.R_drewN | apply Kd.R_drew)); exact (Kd.R_mono (Kd.R_far (p := ⟨gb234, 1, none⟩) (Kd.R_far (p := ⟨gb234, 0, none⟩) (Kd.R_types HO224.out BK234.out (by decide)) (fun _ hk => hk.2) (.int .i64 2)) (fun _ hk => hk.2) (.slice Ao49 [(⟨2, 7, 9⟩ : S26)].length co49)) (fun _ h_ => h_.1))) (Kd.R_base ho0) hb); have n4_ := Aside0.mk (Kd.R_elder' (by (with_reducible repeat (first | apply Kd.R_alloc | apply Kd.R_drewN | apply Kd.R_drew)); exact (Kd.R_mono (Kd.R_far (p := ⟨gb234, 1, none⟩) (Kd.R_far (p := ⟨gb234, 0, none⟩) (Kd.R_types HO227.out BK234.out (by decide)) (fun _ hk => hk.2) (.int .i64 2)) (fun _ hk => hk.2) (.slice Ao49 [(⟨2, 7, 9⟩ : S26)].length co49)) (fun _ h_ => h_.1))) (Kd.R_base ho0) hb); have n5_ := Aside0.mk (Kd.R_below (by (with_reducible repeat (first | apply Kd.R_alloc | apply Kd.R_drewN | apply Kd.R_drew)); exact (Kd.R_mono (Kd.R_far (p := ⟨gb234, 1, none⟩) (Kd.R_far (p := ⟨gb234, 0, none⟩) (Kd.R_types HO229.out BK234.out (by decide)) (fun _ hk => hk.2) (.int .i64 2)) (fun _ hk => hk.2) (.slice Ao49 [(⟨2, 7, 9⟩ : S26)].length co49)) (fun _ h_ => h_.1))) hb); have n6_ := Aside0.mk (Kd.R_elder' (by (with_reducible repeat (first | apply Kd.R_alloc | apply Kd.R_drewN | apply Kd.R_drew)); exact (Kd.R_mono (Kd.R_far (p := ⟨gb234, 1, none⟩) (Kd.R_far (p := ⟨gb234, 0, none⟩) (Kd.R_types HO231.out BK234.out (by decide)) (fun _ hk => hk.2) (.int .i64 2)) (fun _ hk => hk.2) (.slice Ao49 [(⟨2, 7, 9⟩ : S26)].length co49)) (fun _ h_ => h_.1))) (Kd.R_base ho0) hb); have n7_ := Aside0.mk (Kd.R_elder' (by (with_reducible repeat (first | apply Kd.R_alloc | apply Kd.R_drewN | apply Kd.R_drew)); exact (Kd.R_mono (Kd.R_far (p := ⟨gb234, 1, none⟩) (Kd.R_far (p := ⟨gb234, 0, none⟩) (Kd.R_types HO233.out BK234.out (by decide)) (fun _ hk => hk.2) (.int .i64 2)) (fun _ hk => hk.2) (.slice Ao49 [(⟨2, 7, 9⟩ : S26)].length co49)) (fun _ h_ => h_.1))) (Kd.R_base ho0) hb); have n8_ := Aside0.mk (Kd.R_lower (Kd.R_newB (Kd.R_new' (Kd.R_new' (Kd.R_new' (Kd.R_new' (Kd.R_new' (Kd.R_new' (Kd.R_new' ho0 (Kd.R_lt (by (with_reducible repeat (first | apply Kd.R_alloc | apply Kd.R_drewN | apply Kd.R_drew)); exact (Kd.R_mono (Kd.R_far (p := ⟨gb234, 1, none⟩) (Kd.R_far (p := ⟨gb234, 0, none⟩) (Kd.R_types HO218.out BK234.out (by decide)) (fun _ hk => hk.2) (.int .i64 2)) (fun _ hk => hk.2) (.slice Ao49 [(⟨2, 7, 9⟩ : S26)].length co49)) (fun _ h_ => h_.1))))) (Kd.R_lt (by (with_reducible repeat (first | apply Kd.R_alloc | apply Kd.R_drewN | apply Kd.R_drew)); exact (Kd.R_mono (Kd.R_far (p := ⟨gb234, 1, none⟩) (Kd.R_far (p := ⟨gb234, 0, none⟩) (Kd.R_types HO220.out BK234.out (by decide)) (fun _ hk => hk.2) (.int .i64 2)) (fun _ hk => hk.2) (.slice Ao49 [(⟨2, 7, 9⟩ : S26)].length co49)) (fun _ h_ => h_.1))))) (Kd.R_lt (by (with_reducible repeat (first | apply Kd.R_alloc | apply Kd.R_drewN | apply Kd.R_drew)); exact (Kd.R_mono (Kd.R_far (p := ⟨gb234, 1, none⟩) (Kd.R_far (p := ⟨gb234, 0, none⟩) (Kd.R_types HO222.out BK234.out (by decide)) (fun _ hk => hk.2) (.int .i64 2)) (fun _ hk => hk.2) (.slice Ao49 [(⟨2, 7, 9⟩ : S26)].length co49)) (fun _ h_ => h_.1))))) (Kd.R_lt (by (with_reducible repeat (first | apply Kd.R_alloc | apply Kd.R_drewN | apply Kd.R_drew)); exact (Kd.R_mono (Kd.R_far (p := ⟨gb234, 1, none⟩) (Kd.R_far (p := ⟨gb234, 0, none⟩) (Kd.R_types HO224.out BK234.out (by decide)) (fun _ hk => hk.2) (.int .i64 2)) (fun _ hk => hk.2) (.slice Ao49 [(⟨2, 7, 9⟩ : S26)].length co49)) (fun _ h_ => h_.1))))) (Kd.R_lt (by (with_reducible repeat (first | apply Kd.R_alloc | apply Kd.R_drewN | apply Kd.R_drew)); exact (Kd.R_mono (Kd.R_far (p := ⟨gb234, 1, none⟩) (Kd.R_far (p := ⟨gb234, 0, none⟩) (Kd.R_types HO227.out BK234.out (by decide)) (fun _ hk => hk.2) (.int .i64 2)) (fun _ hk => hk.2) (.slice Ao49 [(⟨2, 7, 9⟩ : S26)].length co49)) (fun _ h_ => h_.1))))) (Kd.R_lt (by (with_reducible repeat (first | apply Kd.R_alloc | apply Kd.R_drewN | apply Kd.R_drew)); exact (Kd.R_mono (Kd.R_far (p := ⟨gb234, 1, none⟩) (Kd.R_far (p := ⟨gb234, 0, none⟩) (Kd.R_types HO231.out BK234.out (by decide)) (fun _ hk => hk.2) (.int .i64 2)) (fun _ hk => hk.2) (.slice Ao49 [(⟨2, 7, 9⟩ : S26)].length co49)) (fun _ h_ => h_.1))))) (Kd.R_lt (by (with_reducible repeat (first | apply Kd.R_alloc | apply Kd.R_drewN | apply Kd.R_drew)); exact (Kd.R_mono (Kd.R_far (p := ⟨gb234, 1, none⟩) (Kd.R_far (p := ⟨gb234, 0, none⟩) (Kd.R_types HO233.out BK234.out (by decide)) (fun _ hk => hk.2) (.int .i64 2)) (fun _ hk => hk.2) (.slice Ao49 [(⟨2, 7, 9⟩ : S26)].length co49)) (fun _ h_ => h_.1))))) (g := gb225) (o := .cells #[.int .i64 1, .int .i64 100, .int .i64 1500] 26 (0, 0)) (by (with_reducible repeat first | apply bN | apply bD | apply bA); refine blk_far ?_ NB225_234.out _; (with_reducible repeat first | apply bN | apply bD | apply bA); refine blk_far ?_ NB225_234.out _; (with_reducible repeat first | apply bN | apply bD | apply bA); exact BK225.out)) (below_size (eG HB.out))); have n9_ := Aside0.mk (blk_below (g := gb225) (o := .cells #[.int .i64 1, .int .i64 100, .int .i64 1500] 26 (0, 0)) (by (with_reducible repeat first | apply bN | apply bD | apply bA); refine blk_far ?_ NB225_234.out _; (with_reducible repeat first | apply bN | apply bD | apply bA); refine blk_far ?_ NB225_234.out _; (with_reducible repeat first | apply bN | apply bD | apply bA); exact BK225.out) hb); have n10_ := Aside0.mk (blk_below (g := gb234) (o := .cells #[.int .i64 2, .slice Ao49 [(⟨2, 7, 9⟩ : S26)].length co49] 24 (0, 0)) (by (with_reducible repeat first | apply bN | apply bD | apply bA); refine blk_put (cs := #[.int .i64 2, .slice none 0 0]) ?_ 1 _ rfl; (with_reducible repeat first | apply bN | apply bD | apply bA); refine blk_put (cs := #[.int .i64 0, .slice none 0 0]) ?_ 0 _ rfl; (with_reducible repeat first | apply bN | apply bD | apply bA); exact BK234.out) hb); have n11_ := Aside0.mk (below_step (eG HB.out) hb); clear HO218; clear HO220; clear HO222; clear HO224; clear HO227; clear HO229; clear HO231; clear HO233; clear BK225; clear BK234; clear HB; have HO218 := n0_; have HO220 := n1_; have HO222 := n2_; have HO224 := n3_; have HO227 := n4_; have HO229 := n5_; have HO231 := n6_; have HO233 := n7_; have HO236 := n8_; have BK225 := n9_; have BK234 := n10_; have HB := n11_; clear n0_ n1_ n2_ n3_ n4_ n5_ n6_ n7_ n8_ n9_ n10_ n11_; (try clear hb); (try clear hb2); (try clear hk); (try clear hi); (try clear ho0); obtain ⟨Ao51, co51, eo51⟩ := Kd.R_slice HO236.out; subst eo51) | ((with_reducible refine gate_callee (f := 16) rfl ?_); refine goesL_ (some 60) rfl rfl Tryz.func16 (by kernel_rfl) rfl #[.agg #[.int .i64 3, .slice Ao51 [(⟨1, 0, 1000⟩ : S26), (⟨1, 100, 1500⟩ : S26)].length co51], .agg #[.int .i64 1, .int .i64 50, .int .i64 7]] rfl (by (try simp only [List.map_toArray, List.map_cons, List.map_nil]); first | done | rfl | (simp only [List.length_drop, List.length_take]; rfl)) ?_; (with_reducible refine (tariff_Insert.calls 400 3 _ _ [(⟨1, 0, 1000⟩ : S26), (⟨1, 100, 1500⟩ : S26)] 1 50 7 3 [(⟨1, 0, 1000⟩ : S26), (⟨1, 50, 7⟩ : S26), (⟨1, 100, 1500⟩ : S26)] 0 _ ?side1 ?side2 A15.out).mono ?_); (case side1 => repeat (first | exact (Kd.R_reads' HO236.out).2.2 | (with_reducible refine Kd.C_alloc ?_ _) | (with_reducible refine Kd.C_drewN ?_ _) | (with_reducible refine Kd.C_drew ?_))); (case side2 => exact (Kd.R_reads' HO236.out).2.1); rintro e w52 ⟨v237, rfl, ho0, hb⟩; refine ⟨_, rfl, ?_⟩; have n0_ := Aside0.mk (Kd.R_elder' (rG HO218.out) (Kd.R_base ho0) hb); have n1_ := Aside0.mk (Kd.R_elder' (rG HO220.out) (Kd.R_base ho0) hb); have n2_ := Aside0.mk (Kd.R_elder' (rG HO222.out) (Kd.R_base ho0) hb); have n3_ := Aside0.mk (Kd.R_elder' (rG HO224.out) (Kd.R_base ho0) hb); have n4_ := Aside0.mk (Kd.R_elder' (rG HO227.out) (Kd.R_base ho0) hb); have n5_ := Aside0.mk (Kd.R_below (rG HO229.out) hb); have n6_ := Aside0.mk (Kd.R_elder' (rG HO231.out) (Kd.R_base ho0) hb); have n7_ := Aside0.mk (Kd.R_elder' (rG HO233.out) (Kd.R_base ho0) hb); have n8_ := Aside0.mk (Kd.R_elder' (rG HO236.out) (Kd.R_base ho0) hb); have n9_ := Aside0.mk (Kd.R_lower (Kd.R_newB (Kd.R_new' (Kd.R_new' (Kd.R_new' (Kd.R_new' (Kd.R_new' (Kd.R_new' (Kd.R_new' (Kd.R_new' ho0 (Kd.R_lt (rG HO218.out))) (Kd.R_lt (rG HO220.out))) (Kd.R_lt (rG HO222.out))) (Kd.R_lt (rG HO224.out))) (Kd.R_lt (rG HO227.out))) (Kd.R_lt (rG HO231.out))) (Kd.R_lt (rG HO233.out))) (Kd.R_lt (rG HO236.out))) (bG BK225.out)) (below_size (eG HB.out))); have n10_ := Aside0.mk (blk_below (bG BK225.out) hb); have n11_ := Aside0.mk (blk_below (bG BK234.out) hb); have n12_ := Aside0.mk (below_step (eG HB.out) hb); clear HO218; clear HO220; clear HO222; clear HO224; clear HO227; clear HO229; clear HO231; clear HO233; clear HO236; clear BK225; clear BK234; clear HB; have HO218 := n0_; have HO220 := n1_; have HO222 := n2_; have HO224 := n3_; have HO227 := n4_; have HO229 := n5_; have HO231 := n6_; have HO233 := n7_; have HO236 := n8_; have HO238 := n9_; have BK225 := n10_; have BK234 := n11_; have HB := n12_; clear n0_ n1_ n2_ n3_ n4_ n5_ n6_ n7_ n8_ n9_ n10_ n11_ n12_; (try clear hb); (try clear hb2); (try clear hk); (try clear hi); (try clear ho0)) | ((with_reducible refine gate_dst (N := 16) rfl ?_); (try (refine gate_guard (by rfl) ?_; dsimp only)); refine box_event ?hg (N := 16) ?hd (cs := #[.int .i64 0, .slice none 0 0]) (t := 24) ?hr ?_; (case hd => rfl); (case hg => rfl); (case hr => first | (go_simp; done) | (go_simp; rfl)); intro gb239 hg w53 hbox hb; have n0_ := Aside0.mk (Kd.R_below (rG HO218.out) hb); have n1_ := Aside0.mk (Kd.R_below (rG HO220.out) hb); have n2_ := Aside0.mk (Kd.R_below (rG HO222.out) hb); have n3_ := Aside0.mk (Kd.R_below (rG HO224.out) hb); have n4_ := Aside0.mk (Kd.R_below (rG HO227.out) hb); have n5_ := Aside0.mk (Kd.R_below (rG HO229.out) hb); have n6_ := Aside0.mk (Kd.R_below (rG HO231.out) hb); have n7_ := Aside0.mk (Kd.R_below (rG HO233.out) hb); have n8_ := Aside0.mk (Kd.R_below (rG HO236.out) hb); have n9_ := Aside0.mk (Kd.R_below (rG HO238.out) hb); have n10_ := Aside0.mk (blk_below (bG BK225.out) hb); have n11_ := Aside0.mk (blk_below (bG BK234.out) hb); have n12_ := Aside0.mk (below_step (eG HB.out) hb); have n13_ := Aside0.mk (hbox); have n14_ := Aside0.mk ((by rw [hg]; exact (below_size (eG HB.out)) : w.heap.size ≤ gb239)); have n15_ := Aside0.mk ((by rw [hg]; exact (below_size (eG HB.out)) : w.heap.size ≤ gb239)); have n16_ := Aside0.mk ((by rw [hg]; exact Nat.ne_of_lt (blk_lt (bG BK225.out)) : gb225 ≠ gb239)); have n17_ := Aside0.mk ((by rw [hg]; exact Nat.ne_of_gt (blk_lt (bG BK225.out)) : gb239 ≠ gb225)); have n18_ := Aside0.mk ((by rw [hg]; exact Nat.ne_of_lt (blk_lt (bG BK234.out)) : gb234 ≠ gb239)); have n19_ := Aside0.mk ((by rw [hg]; exact Nat.ne_of_gt (blk_lt (bG BK234.out)) : gb239 ≠ gb234)); clear HO218; clear HO220; clear HO222; clear HO224; clear HO227; clear HO229; clear HO231; clear HO233; clear HO236; clear HO238; clear BK225; clear BK234; clear HB; have HO218 := n0_; have HO220 := n1_; have HO222 := n2_; have HO224 := n3_; have HO227 := n4_; have HO229 := n5_; have HO231 := n6_; have HO233 := n7_; have HO236 := n8_; have HO238 := n9_; have BK225 := n10_; have BK234 := n11_; have HB := n12_; have BK239 := n13_; have GW239 := n14_; have GE239 := n15_; have ig239_ := geI GE239; have NB225_239 := n16_; have NB239_225 := n17_; have NB234_239 := n18_; have NB239_234 := n19_; clear n0_ n1_ n2_ n3_ n4_ n5_ n6_ n7_ n8_ n9_ n10_ n11_ n12_ n13_ n14_ n15_ n16_ n17_ n18_ n19_; clear hb hbox hg; have hnb54 := NB239_225.out; have hnc54 := NB225_239.out; have hnb55 := NB239_234.out; have hnc55 := NB234_239.out; have hcz56_0 : w53.cell? ⟨gb239, 0, none⟩ = some (.int .i64 0) := (blk_cell BK239.out 0).trans rfl; have hcz56_1 : w53.cell? ⟨gb239, 1, none⟩ = some (.slice none 0 0) := (blk_cell BK239.out 1).trans rfl; have hfz56_0 := blk_frozen BK239.out 0; have hfz56_1 := blk_frozen BK239.out 1; obtain ⟨Ao57, co57, eo57⟩ := Kd.R_slice HO238.out; subst eo57) | ((with_reducible refine gate_callee (f := 34) rfl ?_); refine goesL_ (some 64) rfl rfl Tryz.func34 (by kernel_rfl) rfl #[] rfl (by (try simp only [List.map_toArray, List.map_cons, List.map_nil]); first | done | rfl | (simp only [List.length_drop, List.length_take]; rfl)) ?_; (with_reducible refine (spilelaw46_example.calls  3 [(⟨1, 0, 1000⟩ : S26), (⟨1, 100, 1500⟩ : S26)] _ A16.out).mono ?_); rintro e w58 ⟨v240, rfl, ho0, hb⟩; refine ⟨_, rfl, ?_⟩; have n0_ := Aside0.mk (Kd.R_elder' (by (with_reducible repeat (first | apply Kd.R_alloc | apply Kd.R_drewN | apply Kd.R_drew)); exact (Kd.R_mono (Kd.R_far (p := ⟨gb239, 1, none⟩) (Kd.R_far (p := ⟨gb239, 0, none⟩) (Kd.R_types HO218.out BK239.out (by decide)) (fun _ hk => hk.2) (.int .i64 3)) (fun _ hk => hk.2) (.slice Ao57 [(⟨1, 0, 1000⟩ : S26), (⟨1, 50, 7⟩ : S26), (⟨1, 100, 1500⟩ : S26)].length co57)) (fun _ h_ => h_.1))) (Kd.R_base ho0) hb); have n1_ := Aside0.mk (Kd.R_elder' (by (with_reducible repeat (first | apply Kd.R_alloc | apply Kd.R_drewN | apply Kd.R_drew)); exact (Kd.R_mono (Kd.R_far (p := ⟨gb239, 1, none⟩) (Kd.R_far (p := ⟨gb239, 0, none⟩) (Kd.R_types HO220.out BK239.out (by decide)) (fun _ hk => hk.2) (.int .i64 3)) (fun _ hk => hk.2) (.slice Ao57 [(⟨1, 0, 1000⟩ : S26), (⟨1, 50, 7⟩ : S26), (⟨1, 100, 1500⟩ : S26)].length co57)) (fun _ h_ => h_.1))) (Kd.R_base ho0) hb); have n2_ := Aside0.mk (Kd.R_elder' (by (with_reducible repeat (first | apply Kd.R_alloc | apply Kd.R_drewN | apply Kd.R_drew)); exact (Kd.R_mono (Kd.R_far (p := ⟨gb239, 1, none⟩) (Kd.R_far (p := ⟨gb239, 0, none⟩) (Kd.R_types HO222.out BK239.out (by decide)) (fun _ hk => hk.2) (.int .i64 3)) (fun _ hk => hk.2) (.slice Ao57 [(⟨1, 0, 1000⟩ : S26), (⟨1, 50, 7⟩ : S26), (⟨1, 100, 1500⟩ : S26)].length co57)) (fun _ h_ => h_.1))) (Kd.R_base ho0) hb); have n3_ := Aside0.mk (Kd.R_elder' (by (with_reducible repeat (first | apply Kd.R_alloc | apply Kd.R_drewN | apply Kd.R_drew)); exact (Kd.R_mono (Kd.R_far (p := ⟨gb239, 1, none⟩) (Kd.R_far (p := ⟨gb239, 0, none⟩) (Kd.R_types HO224.out BK239.out (by decide)) (fun _ hk => hk.2) (.int .i64 3)) (fun _ hk => hk.2) (.slice Ao57 [(⟨1, 0, 1000⟩ : S26), (⟨1, 50, 7⟩ : S26), (⟨1, 100, 1500⟩ : S26)].length co57)) (fun _ h_ => h_.1))) (Kd.R_base ho0) hb); have n4_ := Aside0.mk (Kd.R_elder' (by (with_reducible repeat (first | apply Kd.R_alloc | apply Kd.R_drewN | apply Kd.R_drew)); exact (Kd.R_mono (Kd.R_far (p := ⟨gb239, 1, none⟩) (Kd.R_far (p := ⟨gb239, 0, none⟩) (Kd.R_types HO227.out BK239.out (by decide)) (fun _ hk => hk.2) (.int .i64 3)) (fun _ hk => hk.2) (.slice Ao57 [(⟨1, 0, 1000⟩ : S26), (⟨1, 50, 7⟩ : S26), (⟨1, 100, 1500⟩ : S26)].length co57)) (fun _ h_ => h_.1))) (Kd.R_base ho0) hb); have n5_ := Aside0.mk (Kd.R_below (by (with_reducible repeat (first | apply Kd.R_alloc | apply Kd.R_drewN | apply Kd.R_drew)); exact (Kd.R_mono (Kd.R_far (p := ⟨gb239, 1, none⟩) (Kd.R_far (p := ⟨gb239, 0, none⟩) (Kd.R_types HO229.out BK239.out (by decide)) (fun _ hk => hk.2) (.int .i64 3)) (fun _ hk => hk.2) (.slice Ao57 [(⟨1, 0, 1000⟩ : S26), (⟨1, 50, 7⟩ : S26), (⟨1, 100, 1500⟩ : S26)].length co57)) (fun _ h_ => h_.1))) hb); have n6_ := Aside0.mk (Kd.R_elder' (by (with_reducible repeat (first | apply Kd.R_alloc | apply Kd.R_drewN | apply Kd.R_drew)); exact (Kd.R_mono (Kd.R_far (p := ⟨gb239, 1, none⟩) (Kd.R_far (p := ⟨gb239, 0, none⟩) (Kd.R_types HO231.out BK239.out (by decide)) (fun _ hk => hk.2) (.int .i64 3)) (fun _ hk => hk.2) (.slice Ao57 [(⟨1, 0, 1000⟩ : S26), (⟨1, 50, 7⟩ : S26), (⟨1, 100, 1500⟩ : S26)].length co57)) (fun _ h_ => h_.1))) (Kd.R_base ho0) hb); have n7_ := Aside0.mk (Kd.R_elder' (by (with_reducible repeat (first | apply Kd.R_alloc | apply Kd.R_drewN | apply Kd.R_drew)); exact (Kd.R_mono (Kd.R_far (p := ⟨gb239, 1, none⟩) (Kd.R_far (p := ⟨gb239, 0, none⟩) (Kd.R_types HO233.out BK239.out (by decide)) (fun _ hk => hk.2) (.int .i64 3)) (fun _ hk => hk.2) (.slice Ao57 [(⟨1, 0, 1000⟩ : S26), (⟨1, 50, 7⟩ : S26), (⟨1, 100, 1500⟩ : S26)].length co57)) (fun _ h_ => h_.1))) (Kd.R_base ho0) hb); have n8_ := Aside0.mk (Kd.R_elder' (by (with_reducible repeat (first | apply Kd.R_alloc | apply Kd.R_drewN | apply Kd.R_drew)); exact (Kd.R_mono (Kd.R_far (p := ⟨gb239, 1, none⟩) (Kd.R_far (p := ⟨gb239, 0, none⟩) (Kd.R_types HO236.out BK239.out (by decide)) (fun _ hk => hk.2) (.int .i64 3)) (fun _ hk => hk.2) (.slice Ao57 [(⟨1, 0, 1000⟩ : S26), (⟨1, 50, 7⟩ : S26), (⟨1, 100, 1500⟩ : S26)].length co57)) (fun _ h_ => h_.1))) (Kd.R_base ho0) hb); have n9_ := Aside0.mk (Kd.R_elder' (by (with_reducible repeat (first | apply Kd.R_alloc | apply Kd.R_drewN | apply Kd.R_drew)); exact (Kd.R_mono (Kd.R_far (p := ⟨gb239, 1, none⟩) (Kd.R_far (p := ⟨gb239, 0, none⟩) (Kd.R_types HO238.out BK239.out (by decide)) (fun _ hk => hk.2) (.int .i64 3)) (fun _ hk => hk.2) (.slice Ao57 [(⟨1, 0, 1000⟩ : S26), (⟨1, 50, 7⟩ : S26), (⟨1, 100, 1500⟩ : S26)].length co57)) (fun _ h_ => h_.1))) (Kd.R_base ho0) hb); have n10_ := Aside0.mk (Kd.R_lower (Kd.R_newB (Kd.R_new' (Kd.R_new' (Kd.R_new' (Kd.R_new' (Kd.R_new' (Kd.R_new' (Kd.R_new' (Kd.R_new' (Kd.R_new' ho0 (Kd.R_lt (by (with_reducible repeat (first | apply Kd.R_alloc | apply Kd.R_drewN | apply Kd.R_drew)); exact (Kd.R_mono (Kd.R_far (p := ⟨gb239, 1, none⟩) (Kd.R_far (p := ⟨gb239, 0, none⟩) (Kd.R_types HO218.out BK239.out (by decide)) (fun _ hk => hk.2) (.int .i64 3)) (fun _ hk => hk.2) (.slice Ao57 [(⟨1, 0, 1000⟩ : S26), (⟨1, 50, 7⟩ : S26), (⟨1, 100, 1500⟩ : S26)].length co57)) (fun _ h_ => h_.1))))) (Kd.R_lt (by (with_reducible repeat (first | apply Kd.R_alloc | apply Kd.R_drewN | apply Kd.R_drew)); exact (Kd.R_mono (Kd.R_far (p := ⟨gb239, 1, none⟩) (Kd.R_far (p := ⟨gb239, 0, none⟩) (Kd.R_types HO220.out BK239.out (by decide)) (fun _ hk => hk.2) (.int .i64 3)) (fun _ hk => hk.2) (.slice Ao57 [(⟨1, 0, 1000⟩ : S26), (⟨1, 50, 7⟩ : S26), (⟨1, 100, 1500⟩ : S26)].length co57)) (fun _ h_ => h_.1))))) (Kd.R_lt (by (with_reducible repeat (first | apply Kd.R_alloc | apply Kd.R_drewN | apply Kd.R_drew)); exact (Kd.R_mono (Kd.R_far (p := ⟨gb239, 1, none⟩) (Kd.R_far (p := ⟨gb239, 0, none⟩) (Kd.R_types HO222.out BK239.out (by decide)) (fun _ hk => hk.2) (.int .i64 3)) (fun _ hk => hk.2) (.slice Ao57 [(⟨1, 0, 1000⟩ : S26), (⟨1, 50, 7⟩ : S26), (⟨1, 100, 1500⟩ : S26)].length co57)) (fun _ h_ => h_.1))))) (Kd.R_lt (by (with_reducible repeat (first | apply Kd.R_alloc | apply Kd.R_drewN | apply Kd.R_drew)); exact (Kd.R_mono (Kd.R_far (p := ⟨gb239, 1, none⟩) (Kd.R_far (p := ⟨gb239, 0, none⟩) (Kd.R_types HO224.out BK239.out (by decide)) (fun _ hk => hk.2) (.int .i64 3)) (fun _ hk => hk.2) (.slice Ao57 [(⟨1, 0, 1000⟩ : S26), (⟨1, 50, 7⟩ : S26), (⟨1, 100, 1500⟩ : S26)].length co57)) (fun _ h_ => h_.1))))) (Kd.R_lt (by (with_reducible repeat (first | apply Kd.R_alloc | apply Kd.R_drewN | apply Kd.R_drew)); exact (Kd.R_mono (Kd.R_far (p := ⟨gb239, 1, none⟩) (Kd.R_far (p := ⟨gb239, 0, none⟩) (Kd.R_types HO227.out BK239.out (by decide)) (fun _ hk => hk.2) (.int .i64 3)) (fun _ hk => hk.2) (.slice Ao57 [(⟨1, 0, 1000⟩ : S26), (⟨1, 50, 7⟩ : S26), (⟨1, 100, 1500⟩ : S26)].length co57)) (fun _ h_ => h_.1))))) (Kd.R_lt (by (with_reducible repeat (first | apply Kd.R_alloc | apply Kd.R_drewN | apply Kd.R_drew)); exact (Kd.R_mono (Kd.R_far (p := ⟨gb239, 1, none⟩) (Kd.R_far (p := ⟨gb239, 0, none⟩) (Kd.R_types HO231.out BK239.out (by decide)) (fun _ hk => hk.2) (.int .i64 3)) (fun _ hk => hk.2) (.slice Ao57 [(⟨1, 0, 1000⟩ : S26), (⟨1, 50, 7⟩ : S26), (⟨1, 100, 1500⟩ : S26)].length co57)) (fun _ h_ => h_.1))))) (Kd.R_lt (by (with_reducible repeat (first | apply Kd.R_alloc | apply Kd.R_drewN | apply Kd.R_drew)); exact (Kd.R_mono (Kd.R_far (p := ⟨gb239, 1, none⟩) (Kd.R_far (p := ⟨gb239, 0, none⟩) (Kd.R_types HO233.out BK239.out (by decide)) (fun _ hk => hk.2) (.int .i64 3)) (fun _ hk => hk.2) (.slice Ao57 [(⟨1, 0, 1000⟩ : S26), (⟨1, 50, 7⟩ : S26), (⟨1, 100, 1500⟩ : S26)].length co57)) (fun _ h_ => h_.1))))) (Kd.R_lt (by (with_reducible repeat (first | apply Kd.R_alloc | apply Kd.R_drewN | apply Kd.R_drew)); exact (Kd.R_mono (Kd.R_far (p := ⟨gb239, 1, none⟩) (Kd.R_far (p := ⟨gb239, 0, none⟩) (Kd.R_types HO236.out BK239.out (by decide)) (fun _ hk => hk.2) (.int .i64 3)) (fun _ hk => hk.2) (.slice Ao57 [(⟨1, 0, 1000⟩ : S26), (⟨1, 50, 7⟩ : S26), (⟨1, 100, 1500⟩ : S26)].length co57)) (fun _ h_ => h_.1))))) (Kd.R_lt (by (with_reducible repeat (first | apply Kd.R_alloc | apply Kd.R_drewN | apply Kd.R_drew)); exact (Kd.R_mono (Kd.R_far (p := ⟨gb239, 1, none⟩) (Kd.R_far (p := ⟨gb239, 0, none⟩) (Kd.R_types HO238.out BK239.out (by decide)) (fun _ hk => hk.2) (.int .i64 3)) (fun _ hk => hk.2) (.slice Ao57 [(⟨1, 0, 1000⟩ : S26), (⟨1, 50, 7⟩ : S26), (⟨1, 100, 1500⟩ : S26)].length co57)) (fun _ h_ => h_.1))))) (g := gb225) (o := .cells #[.int .i64 1, .int .i64 100, .int .i64 1500] 26 (0, 0)) (by (with_reducible repeat first | apply bN | apply bD | apply bA); refine blk_far ?_ NB225_239.out _; (with_reducible repeat first | apply bN | apply bD | apply bA); refine blk_far ?_ NB225_239.out _; (with_reducible repeat first | apply bN | apply bD | apply bA); exact BK225.out)) (below_size (eG HB.out))); have n11_ := Aside0.mk (blk_below (g := gb225) (o := .cells #[.int .i64 1, .int .i64 100, .int .i64 1500] 26 (0, 0)) (by (with_reducible repeat first | apply bN | apply bD | apply bA); refine blk_far ?_ NB225_239.out _; (with_reducible repeat first | apply bN | apply bD | apply bA); refine blk_far ?_ NB225_239.out _; (with_reducible repeat first | apply bN | apply bD | apply bA); exact BK225.out) hb); have n12_ := Aside0.mk (blk_below (g := gb234) (o := .cells #[.int .i64 2, .slice Ao49 [(⟨2, 7, 9⟩ : S26)].length co49] 24 (0, 0)) (by (with_reducible repeat first | apply bN | apply bD | apply bA); refine blk_far ?_ NB234_239.out _; (with_reducible repeat first | apply bN | apply bD | apply bA); refine blk_far ?_ NB234_239.out _; (with_reducible repeat first | apply bN | apply bD | apply bA); exact BK234.out) hb); have n13_ := Aside0.mk (blk_below (g := gb239) (o := .cells #[.int .i64 3, .slice Ao57 [(⟨1, 0, 1000⟩ : S26), (⟨1, 50, 7⟩ : S26), (⟨1, 100, 1500⟩ : S26)].length co57] 24 (0, 0)) (by (with_reducible repeat first | apply bN | apply bD | apply bA); refine blk_put (cs := #[.int .i64 3, .slice none 0 0]) ?_ 1 _ rfl; (with_reducible repeat first | apply bN | apply bD | apply bA); refine blk_put (cs := #[.int .i64 0, .slice none 0 0]) ?_ 0 _ rfl; (with_reducible repeat first | apply bN | apply bD | apply bA); exact BK239.out) hb); have n14_ := Aside0.mk (below_step (eG HB.out) hb); clear HO218; clear HO220; clear HO222; clear HO224; clear HO227; clear HO229; clear HO231; clear HO233; clear HO236; clear HO238; clear BK225; clear BK234; clear BK239; clear HB; have HO218 := n0_; have HO220 := n1_; have HO222 := n2_; have HO224 := n3_; have HO227 := n4_; have HO229 := n5_; have HO231 := n6_; have HO233 := n7_; have HO236 := n8_; have HO238 := n9_; have HO241 := n10_; have BK225 := n11_; have BK234 := n12_; have BK239 := n13_; have HB := n14_; clear n0_ n1_ n2_ n3_ n4_ n5_ n6_ n7_ n8_ n9_ n10_ n11_ n12_ n13_ n14_; (try clear hb); (try clear hb2); (try clear hk); (try clear hi); (try clear ho0); obtain ⟨Ao59, co59, eo59⟩ := Kd.R_slice HO241.out; subst eo59) | ((with_reducible refine gate_callee (f := 19) rfl ?_); refine goesL_ (some 65) rfl rfl Tryz.func19 (by kernel_rfl) rfl #[.agg #[.int .i64 3, .slice Ao59 [(⟨1, 0, 1000⟩ : S26), (⟨1, 100, 1500⟩ : S26)].length co59], .int .i64 1, .int .i64 99] rfl (by (try simp only [List.map_toArray, List.map_cons, List.map_nil]); first | done | rfl | (simp only [List.length_drop, List.length_take]; rfl)) ?_; (with_reducible refine (tariff_At.calls 400 3 _ _ [(⟨1, 0, 1000⟩ : S26), (⟨1, 100, 1500⟩ : S26)] 1 99 1 0 1000 0 _ ?side1 ?side2 A17.out).mono ?_); (case side1 => repeat (first | exact (Kd.R_reads' HO241.out).2.2 | (with_reducible refine Kd.C_alloc ?_ _) | (with_reducible refine Kd.C_drewN ?_ _) | (with_reducible refine Kd.C_drew ?_))); (case side2 => exact (Kd.R_reads' HO241.out).2.1); rintro e w60 ⟨rfl, hb⟩; refine ⟨_, rfl, ?_⟩; have n0_ := Aside0.mk (Kd.R_below (rG HO218.out) hb); have n1_ := Aside0.mk (Kd.R_below (rG HO220.out) hb); have n2_ := Aside0.mk (Kd.R_below (rG HO222.out) hb); have n3_ := Aside0.mk (Kd.R_below (rG HO224.out) hb); have n4_ := Aside0.mk (Kd.R_below (rG HO227.out) hb); have n5_ := Aside0.mk (Kd.R_below (rG HO229.out) hb); have n6_ := Aside0.mk (Kd.R_below (rG HO231.out) hb); have n7_ := Aside0.mk (Kd.R_below (rG HO233.out) hb); have n8_ := Aside0.mk (Kd.R_below (rG HO236.out) hb); have n9_ := Aside0.mk (Kd.R_below (rG HO238.out) hb); have n10_ := Aside0.mk (Kd.R_below (rG HO241.out) hb); have n11_ := Aside0.mk (blk_below (bG BK225.out) hb); have n12_ := Aside0.mk (blk_below (bG BK234.out) hb); have n13_ := Aside0.mk (blk_below (bG BK239.out) hb); have n14_ := Aside0.mk (below_step (eG HB.out) hb); clear HO218; clear HO220; clear HO222; clear HO224; clear HO227; clear HO229; clear HO231; clear HO233; clear HO236; clear HO238; clear HO241; clear BK225; clear BK234; clear BK239; clear HB; have HO218 := n0_; have HO220 := n1_; have HO222 := n2_; have HO224 := n3_; have HO227 := n4_; have HO229 := n5_; have HO231 := n6_; have HO233 := n7_; have HO236 := n8_; have HO238 := n9_; have HO241 := n10_; have BK225 := n11_; have BK234 := n12_; have BK239 := n13_; have HB := n14_; clear n0_ n1_ n2_ n3_ n4_ n5_ n6_ n7_ n8_ n9_ n10_ n11_ n12_ n13_ n14_; (try clear hb); (try clear hb2); (try clear hk); (try clear hi)) | ((with_reducible refine gate_dst (N := 18) rfl ?_); (try (refine gate_guard (by rfl) ?_; dsimp only)); refine box_event ?hg (N := 18) ?hd (cs := #[.int .i64 0, .int .i64 0, .int .i64 0]) (t := 26) ?hr ?_; (case hd => rfl); (case hg => rfl); (case hr => first | (go_simp; done) | (go_simp; rfl)); intro gb242 hg w61 hbox hb; have n0_ := Aside0.mk (Kd.R_below (Kd.R_elderB (rG HO218.out) gb242 (Nat.le_of_eq hg.symm)) hb); have n1_ := Aside0.mk (Kd.R_below (Kd.R_elderB (rG HO220.out) gb242 (Nat.le_of_eq hg.symm)) hb); have n2_ := Aside0.mk (Kd.R_below (Kd.R_elderB (rG HO222.out) gb242 (Nat.le_of_eq hg.symm)) hb); have n3_ := Aside0.mk (Kd.R_below (Kd.R_elderB (rG HO224.out) gb242 (Nat.le_of_eq hg.symm)) hb); have n4_ := Aside0.mk (Kd.R_below (Kd.R_elderB (rG HO227.out) gb242 (Nat.le_of_eq hg.symm)) hb); have n5_ := Aside0.mk (Kd.R_below (rG HO229.out) hb); have n6_ := Aside0.mk (Kd.R_below (Kd.R_elderB (rG HO231.out) gb242 (Nat.le_of_eq hg.symm)) hb); have n7_ := Aside0.mk (Kd.R_below (Kd.R_elderB (rG HO233.out) gb242 (Nat.le_of_eq hg.symm)) hb); have n8_ := Aside0.mk (Kd.R_below (Kd.R_elderB (rG HO236.out) gb242 (Nat.le_of_eq hg.symm)) hb); have n9_ := Aside0.mk (Kd.R_below (Kd.R_elderB (rG HO238.out) gb242 (Nat.le_of_eq hg.symm)) hb); have n10_ := Aside0.mk (Kd.R_below (Kd.R_elderB (rG HO241.out) gb242 (Nat.le_of_eq hg.symm)) hb); have n11_ := Aside0.mk (blk_below (bG BK225.out) hb); have n12_ := Aside0.mk (blk_below (bG BK234.out) hb); have n13_ := Aside0.mk (blk_below (bG BK239.out) hb); have n14_ := Aside0.mk (below_step (eG HB.out) hb); have n15_ := Aside0.mk (hbox); have n16_ := Aside0.mk ((by rw [hg]; exact (below_size (eG HB.out)) : w.heap.size ≤ gb242)); have n17_ := Aside0.mk ((by rw [hg]; exact (below_size (eG HB.out)) : w.heap.size ≤ gb242)); have n18_ := Aside0.mk ((by rw [hg]; exact Nat.ne_of_lt (blk_lt (bG BK225.out)) : gb225 ≠ gb242)); have n19_ := Aside0.mk ((by rw [hg]; exact Nat.ne_of_gt (blk_lt (bG BK225.out)) : gb242 ≠ gb225)); have n20_ := Aside0.mk ((by rw [hg]; exact Nat.ne_of_lt (blk_lt (bG BK234.out)) : gb234 ≠ gb242)); have n21_ := Aside0.mk ((by rw [hg]; exact Nat.ne_of_gt (blk_lt (bG BK234.out)) : gb242 ≠ gb234)); have n22_ := Aside0.mk ((by rw [hg]; exact Nat.ne_of_lt (blk_lt (bG BK239.out)) : gb239 ≠ gb242)); have n23_ := Aside0.mk ((by rw [hg]; exact Nat.ne_of_gt (blk_lt (bG BK239.out)) : gb242 ≠ gb239)); clear HO218; clear HO220; clear HO222; clear HO224; clear HO227; clear HO229; clear HO231; clear HO233; clear HO236; clear HO238; clear HO241; clear BK225; clear BK234; clear BK239; clear HB; have HO218 := n0_; have HO220 := n1_; have HO222 := n2_; have HO224 := n3_; have HO227 := n4_; have HO229 := n5_; have HO231 := n6_; have HO233 := n7_; have HO236 := n8_; have HO238 := n9_; have HO241 := n10_; have BK225 := n11_; have BK234 := n12_; have BK239 := n13_; have HB := n14_; have BK242 := n15_; have GW242 := n16_; have GE242 := n17_; have ig242_ := geI GE242; have NB225_242 := n18_; have NB242_225 := n19_; have NB234_242 := n20_; have NB242_234 := n21_; have NB239_242 := n22_; have NB242_239 := n23_; clear n0_ n1_ n2_ n3_ n4_ n5_ n6_ n7_ n8_ n9_ n10_ n11_ n12_ n13_ n14_ n15_ n16_ n17_ n18_ n19_ n20_ n21_ n22_ n23_; clear hb hbox hg; have hnb62 := NB242_225.out; have hnc62 := NB225_242.out; have hnb63 := NB242_234.out; have hnc63 := NB234_242.out; have hnb64 := NB242_239.out; have hnc64 := NB239_242.out; have hcz65_0 : w61.cell? ⟨gb242, 0, none⟩ = some (.int .i64 0) := (blk_cell BK242.out 0).trans rfl; have hcz65_1 : w61.cell? ⟨gb242, 1, none⟩ = some (.int .i64 0) := (blk_cell BK242.out 1).trans rfl; have hcz65_2 : w61.cell? ⟨gb242, 2, none⟩ = some (.int .i64 0) := (blk_cell BK242.out 2).trans rfl; have hfz65_0 := blk_frozen BK242.out 0; have hfz65_1 := blk_frozen BK242.out 1; have hfz65_2 := blk_frozen BK242.out 2) | ((with_reducible refine gate_callee (f := 34) rfl ?_); refine goesL_ (some 69) rfl rfl Tryz.func34 (by kernel_rfl) rfl #[] rfl (by (try simp only [List.map_toArray, List.map_cons, List.map_nil]); first | done | rfl | (simp only [List.length_drop, List.length_take]; rfl)) ?_; (with_reducible refine (spilelaw46_example.calls  3 [(⟨1, 0, 1000⟩ : S26), (⟨1, 100, 1500⟩ : S26)] _ A18.out).mono ?_); rintro e w66 ⟨v243, rfl, ho0, hb⟩; refine ⟨_, rfl, ?_⟩; have n0_ := Aside0.mk (Kd.R_elder' (by (with_reducible repeat (first | apply Kd.R_alloc | apply Kd.R_drewN | apply Kd.R_drew)); exact (Kd.R_mono (Kd.R_far (p := ⟨gb242, 2, none⟩) (Kd.R_far (p := ⟨gb242, 1, none⟩) (Kd.R_far (p := ⟨gb242, 0, none⟩) (Kd.R_mono HO218.out (fun k_ hk => (⟨hk, hk.2⟩ : _ ∧ k_ ≠ gb242))) (fun _ hk => hk.2) (.int .i64 1)) (fun _ hk => hk.2) (.int .i64 0)) (fun _ hk => hk.2) (.int .i64 1000)) (fun _ h_ => h_.1))) (Kd.R_base ho0) hb); have n1_ := Aside0.mk (Kd.R_elder' (by (with_reducible repeat (first | apply Kd.R_alloc | apply Kd.R_drewN | apply Kd.R_drew)); exact (Kd.R_mono (Kd.R_far (p := ⟨gb242, 2, none⟩) (Kd.R_far (p := ⟨gb242, 1, none⟩) (Kd.R_far (p := ⟨gb242, 0, none⟩) (Kd.R_mono HO220.out (fun k_ hk => (⟨hk, hk.2⟩ : _ ∧ k_ ≠ gb242))) (fun _ hk => hk.2) (.int .i64 1)) (fun _ hk => hk.2) (.int .i64 0)) (fun _ hk => hk.2) (.int .i64 1000)) (fun _ h_ => h_.1))) (Kd.R_base ho0) hb); have n2_ := Aside0.mk (Kd.R_elder' (by (with_reducible repeat (first | apply Kd.R_alloc | apply Kd.R_drewN | apply Kd.R_drew)); exact (Kd.R_mono (Kd.R_far (p := ⟨gb242, 2, none⟩) (Kd.R_far (p := ⟨gb242, 1, none⟩) (Kd.R_far (p := ⟨gb242, 0, none⟩) (Kd.R_mono HO222.out (fun k_ hk => (⟨hk, hk.2⟩ : _ ∧ k_ ≠ gb242))) (fun _ hk => hk.2) (.int .i64 1)) (fun _ hk => hk.2) (.int .i64 0)) (fun _ hk => hk.2) (.int .i64 1000)) (fun _ h_ => h_.1))) (Kd.R_base ho0) hb); have n3_ := Aside0.mk (Kd.R_elder' (by (with_reducible repeat (first | apply Kd.R_alloc | apply Kd.R_drewN | apply Kd.R_drew)); exact (Kd.R_mono (Kd.R_far (p := ⟨gb242, 2, none⟩) (Kd.R_far (p := ⟨gb242, 1, none⟩) (Kd.R_far (p := ⟨gb242, 0, none⟩) (Kd.R_mono HO224.out (fun k_ hk => (⟨hk, hk.2⟩ : _ ∧ k_ ≠ gb242))) (fun _ hk => hk.2) (.int .i64 1)) (fun _ hk => hk.2) (.int .i64 0)) (fun _ hk => hk.2) (.int .i64 1000)) (fun _ h_ => h_.1))) (Kd.R_base ho0) hb); have n4_ := Aside0.mk (Kd.R_elder' (by (with_reducible repeat (first | apply Kd.R_alloc | apply Kd.R_drewN | apply Kd.R_drew)); exact (Kd.R_mono (Kd.R_far (p := ⟨gb242, 2, none⟩) (Kd.R_far (p := ⟨gb242, 1, none⟩) (Kd.R_far (p := ⟨gb242, 0, none⟩) (Kd.R_mono HO227.out (fun k_ hk => (⟨hk, hk.2⟩ : _ ∧ k_ ≠ gb242))) (fun _ hk => hk.2) (.int .i64 1)) (fun _ hk => hk.2) (.int .i64 0)) (fun _ hk => hk.2) (.int .i64 1000)) (fun _ h_ => h_.1))) (Kd.R_base ho0) hb); have n5_ := Aside0.mk (Kd.R_below (by (with_reducible repeat (first | apply Kd.R_alloc | apply Kd.R_drewN | apply Kd.R_drew)); exact (Kd.R_mono (Kd.R_far (p := ⟨gb242, 2, none⟩) (Kd.R_far (p := ⟨gb242, 1, none⟩) (Kd.R_far (p := ⟨gb242, 0, none⟩) (Kd.R_types HO229.out BK242.out (by decide)) (fun _ hk => hk.2) (.int .i64 1)) (fun _ hk => hk.2) (.int .i64 0)) (fun _ hk => hk.2) (.int .i64 1000)) (fun _ h_ => h_.1))) hb); have n6_ := Aside0.mk (Kd.R_elder' (by (with_reducible repeat (first | apply Kd.R_alloc | apply Kd.R_drewN | apply Kd.R_drew)); exact (Kd.R_mono (Kd.R_far (p := ⟨gb242, 2, none⟩) (Kd.R_far (p := ⟨gb242, 1, none⟩) (Kd.R_far (p := ⟨gb242, 0, none⟩) (Kd.R_mono HO231.out (fun k_ hk => (⟨hk, hk.2⟩ : _ ∧ k_ ≠ gb242))) (fun _ hk => hk.2) (.int .i64 1)) (fun _ hk => hk.2) (.int .i64 0)) (fun _ hk => hk.2) (.int .i64 1000)) (fun _ h_ => h_.1))) (Kd.R_base ho0) hb); have n7_ := Aside0.mk (Kd.R_elder' (by (with_reducible repeat (first | apply Kd.R_alloc | apply Kd.R_drewN | apply Kd.R_drew)); exact (Kd.R_mono (Kd.R_far (p := ⟨gb242, 2, none⟩) (Kd.R_far (p := ⟨gb242, 1, none⟩) (Kd.R_far (p := ⟨gb242, 0, none⟩) (Kd.R_mono HO233.out (fun k_ hk => (⟨hk, hk.2⟩ : _ ∧ k_ ≠ gb242))) (fun _ hk => hk.2) (.int .i64 1)) (fun _ hk => hk.2) (.int .i64 0)) (fun _ hk => hk.2) (.int .i64 1000)) (fun _ h_ => h_.1))) (Kd.R_base ho0) hb); have n8_ := Aside0.mk (Kd.R_elder' (by (with_reducible repeat (first | apply Kd.R_alloc | apply Kd.R_drewN | apply Kd.R_drew)); exact (Kd.R_mono (Kd.R_far (p := ⟨gb242, 2, none⟩) (Kd.R_far (p := ⟨gb242, 1, none⟩) (Kd.R_far (p := ⟨gb242, 0, none⟩) (Kd.R_mono HO236.out (fun k_ hk => (⟨hk, hk.2⟩ : _ ∧ k_ ≠ gb242))) (fun _ hk => hk.2) (.int .i64 1)) (fun _ hk => hk.2) (.int .i64 0)) (fun _ hk => hk.2) (.int .i64 1000)) (fun _ h_ => h_.1))) (Kd.R_base ho0) hb); have n9_ := Aside0.mk (Kd.R_elder' (by (with_reducible repeat (first | apply Kd.R_alloc | apply Kd.R_drewN | apply Kd.R_drew)); exact (Kd.R_mono (Kd.R_far (p := ⟨gb242, 2, none⟩) (Kd.R_far (p := ⟨gb242, 1, none⟩) (Kd.R_far (p := ⟨gb242, 0, none⟩) (Kd.R_mono HO238.out (fun k_ hk => (⟨hk, hk.2⟩ : _ ∧ k_ ≠ gb242))) (fun _ hk => hk.2) (.int .i64 1)) (fun _ hk => hk.2) (.int .i64 0)) (fun _ hk => hk.2) (.int .i64 1000)) (fun _ h_ => h_.1))) (Kd.R_base ho0) hb); have n10_ := Aside0.mk (Kd.R_elder' (by (with_reducible repeat (first | apply Kd.R_alloc | apply Kd.R_drewN | apply Kd.R_drew)); exact (Kd.R_mono (Kd.R_far (p := ⟨gb242, 2, none⟩) (Kd.R_far (p := ⟨gb242, 1, none⟩) (Kd.R_far (p := ⟨gb242, 0, none⟩) (Kd.R_mono HO241.out (fun k_ hk => (⟨hk, hk.2⟩ : _ ∧ k_ ≠ gb242))) (fun _ hk => hk.2) (.int .i64 1)) (fun _ hk => hk.2) (.int .i64 0)) (fun _ hk => hk.2) (.int .i64 1000)) (fun _ h_ => h_.1))) (Kd.R_base ho0) hb); have n11_ := Aside0.mk (Kd.R_lower (Kd.R_newB (Kd.R_newB (Kd.R_new' (Kd.R_new' (Kd.R_new' (Kd.R_new' (Kd.R_new' (Kd.R_new' (Kd.R_new' (Kd.R_new' (Kd.R_new' (Kd.R_new' ho0 (Kd.R_lt (by (with_reducible repeat (first | apply Kd.R_alloc | apply Kd.R_drewN | apply Kd.R_drew)); exact (Kd.R_mono (Kd.R_far (p := ⟨gb242, 2, none⟩) (Kd.R_far (p := ⟨gb242, 1, none⟩) (Kd.R_far (p := ⟨gb242, 0, none⟩) (Kd.R_mono HO218.out (fun k_ hk => (⟨hk, hk.2⟩ : _ ∧ k_ ≠ gb242))) (fun _ hk => hk.2) (.int .i64 1)) (fun _ hk => hk.2) (.int .i64 0)) (fun _ hk => hk.2) (.int .i64 1000)) (fun _ h_ => h_.1))))) (Kd.R_lt (by (with_reducible repeat (first | apply Kd.R_alloc | apply Kd.R_drewN | apply Kd.R_drew)); exact (Kd.R_mono (Kd.R_far (p := ⟨gb242, 2, none⟩) (Kd.R_far (p := ⟨gb242, 1, none⟩) (Kd.R_far (p := ⟨gb242, 0, none⟩) (Kd.R_mono HO220.out (fun k_ hk => (⟨hk, hk.2⟩ : _ ∧ k_ ≠ gb242))) (fun _ hk => hk.2) (.int .i64 1)) (fun _ hk => hk.2) (.int .i64 0)) (fun _ hk => hk.2) (.int .i64 1000)) (fun _ h_ => h_.1))))) (Kd.R_lt (by (with_reducible repeat (first | apply Kd.R_alloc | apply Kd.R_drewN | apply Kd.R_drew)); exact (Kd.R_mono (Kd.R_far (p := ⟨gb242, 2, none⟩) (Kd.R_far (p := ⟨gb242, 1, none⟩) (Kd.R_far (p := ⟨gb242, 0, none⟩) (Kd.R_mono HO222.out (fun k_ hk => (⟨hk, hk.2⟩ : _ ∧ k_ ≠ gb242))) (fun _ hk => hk.2) (.int .i64 1)) (fun _ hk => hk.2) (.int .i64 0)) (fun _ hk => hk.2) (.int .i64 1000)) (fun _ h_ => h_.1))))) (Kd.R_lt (by (with_reducible repeat (first | apply Kd.R_alloc | apply Kd.R_drewN | apply Kd.R_drew)); exact (Kd.R_mono (Kd.R_far (p := ⟨gb242, 2, none⟩) (Kd.R_far (p := ⟨gb242, 1, none⟩) (Kd.R_far (p := ⟨gb242, 0, none⟩) (Kd.R_mono HO224.out (fun k_ hk => (⟨hk, hk.2⟩ : _ ∧ k_ ≠ gb242))) (fun _ hk => hk.2) (.int .i64 1)) (fun _ hk => hk.2) (.int .i64 0)) (fun _ hk => hk.2) (.int .i64 1000)) (fun _ h_ => h_.1))))) (Kd.R_lt (by (with_reducible repeat (first | apply Kd.R_alloc | apply Kd.R_drewN | apply Kd.R_drew)); exact (Kd.R_mono (Kd.R_far (p := ⟨gb242, 2, none⟩) (Kd.R_far (p := ⟨gb242, 1, none⟩) (Kd.R_far (p := ⟨gb242, 0, none⟩) (Kd.R_mono HO227.out (fun k_ hk => (⟨hk, hk.2⟩ : _ ∧ k_ ≠ gb242))) (fun _ hk => hk.2) (.int .i64 1)) (fun _ hk => hk.2) (.int .i64 0)) (fun _ hk => hk.2) (.int .i64 1000)) (fun _ h_ => h_.1))))) (Kd.R_lt (by (with_reducible repeat (first | apply Kd.R_alloc | apply Kd.R_drewN | apply Kd.R_drew)); exact (Kd.R_mono (Kd.R_far (p := ⟨gb242, 2, none⟩) (Kd.R_far (p := ⟨gb242, 1, none⟩) (Kd.R_far (p := ⟨gb242, 0, none⟩) (Kd.R_mono HO231.out (fun k_ hk => (⟨hk, hk.2⟩ : _ ∧ k_ ≠ gb242))) (fun _ hk => hk.2) (.int .i64 1)) (fun _ hk => hk.2) (.int .i64 0)) (fun _ hk => hk.2) (.int .i64 1000)) (fun _ h_ => h_.1))))) (Kd.R_lt (by (with_reducible repeat (first | apply Kd.R_alloc | apply Kd.R_drewN | apply Kd.R_drew)); exact (Kd.R_mono (Kd.R_far (p := ⟨gb242, 2, none⟩) (Kd.R_far (p := ⟨gb242, 1, none⟩) (Kd.R_far (p := ⟨gb242, 0, none⟩) (Kd.R_mono HO233.out (fun k_ hk => (⟨hk, hk.2⟩ : _ ∧ k_ ≠ gb242))) (fun _ hk => hk.2) (.int .i64 1)) (fun _ hk => hk.2) (.int .i64 0)) (fun _ hk => hk.2) (.int .i64 1000)) (fun _ h_ => h_.1))))) (Kd.R_lt (by (with_reducible repeat (first | apply Kd.R_alloc | apply Kd.R_drewN | apply Kd.R_drew)); exact (Kd.R_mono (Kd.R_far (p := ⟨gb242, 2, none⟩) (Kd.R_far (p := ⟨gb242, 1, none⟩) (Kd.R_far (p := ⟨gb242, 0, none⟩) (Kd.R_mono HO236.out (fun k_ hk => (⟨hk, hk.2⟩ : _ ∧ k_ ≠ gb242))) (fun _ hk => hk.2) (.int .i64 1)) (fun _ hk => hk.2) (.int .i64 0)) (fun _ hk => hk.2) (.int .i64 1000)) (fun _ h_ => h_.1))))) (Kd.R_lt (by (with_reducible repeat (first | apply Kd.R_alloc | apply Kd.R_drewN | apply Kd.R_drew)); exact (Kd.R_mono (Kd.R_far (p := ⟨gb242, 2, none⟩) (Kd.R_far (p := ⟨gb242, 1, none⟩) (Kd.R_far (p := ⟨gb242, 0, none⟩) (Kd.R_mono HO238.out (fun k_ hk => (⟨hk, hk.2⟩ : _ ∧ k_ ≠ gb242))) (fun _ hk => hk.2) (.int .i64 1)) (fun _ hk => hk.2) (.int .i64 0)) (fun _ hk => hk.2) (.int .i64 1000)) (fun _ h_ => h_.1))))) (Kd.R_lt (by (with_reducible repeat (first | apply Kd.R_alloc | apply Kd.R_drewN | apply Kd.R_drew)); exact (Kd.R_mono (Kd.R_far (p := ⟨gb242, 2, none⟩) (Kd.R_far (p := ⟨gb242, 1, none⟩) (Kd.R_far (p := ⟨gb242, 0, none⟩) (Kd.R_mono HO241.out (fun k_ hk => (⟨hk, hk.2⟩ : _ ∧ k_ ≠ gb242))) (fun _ hk => hk.2) (.int .i64 1)) (fun _ hk => hk.2) (.int .i64 0)) (fun _ hk => hk.2) (.int .i64 1000)) (fun _ h_ => h_.1))))) (g := gb225) (o := .cells #[.int .i64 1, .int .i64 100, .int .i64 1500] 26 (0, 0)) (by (with_reducible repeat first | apply bN | apply bD | apply bA); refine blk_far ?_ NB225_242.out _; (with_reducible repeat first | apply bN | apply bD | apply bA); refine blk_far ?_ NB225_242.out _; (with_reducible repeat first | apply bN | apply bD | apply bA); refine blk_far ?_ NB225_242.out _; (with_reducible repeat first | apply bN | apply bD | apply bA); exact BK225.out)) (g := gb242) (o := .cells #[.int .i64 1, .int .i64 0, .int .i64 1000] 26 (0, 0)) (by (with_reducible repeat first | apply bN | apply bD | apply bA); refine blk_put (cs := #[.int .i64 1, .int .i64 0, .int .i64 0]) ?_ 2 _ rfl; (with_reducible repeat first | apply bN | apply bD | apply bA); refine blk_put (cs := #[.int .i64 1, .int .i64 0, .int .i64 0]) ?_ 1 _ rfl; (with_reducible repeat first | apply bN | apply bD | apply bA); refine blk_put (cs := #[.int .i64 0, .int .i64 0, .int .i64 0]) ?_ 0 _ rfl; (with_reducible repeat first | apply bN | apply bD | apply bA); exact BK242.out)) (below_size (eG HB.out))); have n12_ := Aside0.mk (blk_below (g := gb225) (o := .cells #[.int .i64 1, .int .i64 100, .int .i64 1500] 26 (0, 0)) (by (with_reducible repeat first | apply bN | apply bD | apply bA); refine blk_far ?_ NB225_242.out _; (with_reducible repeat first | apply bN | apply bD | apply bA); refine blk_far ?_ NB225_242.out _; (with_reducible repeat first | apply bN | apply bD | apply bA); refine blk_far ?_ NB225_242.out _; (with_reducible repeat first | apply bN | apply bD | apply bA); exact BK225.out) hb); have n13_ := Aside0.mk (blk_below (g := gb234) (o := .cells #[.int .i64 2, .slice Ao49 [(⟨2, 7, 9⟩ : S26)].length co49] 24 (0, 0)) (by (with_reducible repeat first | apply bN | apply bD | apply bA); refine blk_far ?_ NB234_242.out _; (with_reducible repeat first | apply bN | apply bD | apply bA); refine blk_far ?_ NB234_242.out _; (with_reducible repeat first | apply bN | apply bD | apply bA); refine blk_far ?_ NB234_242.out _; (with_reducible repeat first | apply bN | apply bD | apply bA); exact BK234.out) hb); have n14_ := Aside0.mk (blk_below (g := gb239) (o := .cells #[.int .i64 3, .slice Ao57 [(⟨1, 0, 1000⟩ : S26), (⟨1, 50, 7⟩ : S26), (⟨1, 100, 1500⟩ : S26)].length co57] 24 (0, 0)) (by (with_reducible repeat first | apply bN | apply bD | apply bA); refine blk_far ?_ NB239_242.out _; (with_reducible repeat first | apply bN | apply bD | apply bA); refine blk_far ?_ NB239_242.out _; (with_reducible repeat first | apply bN | apply bD | apply bA); refine blk_far ?_ NB239_242.out _; (with_reducible repeat first | apply bN | apply bD | apply bA); exact BK239.out) hb); have n15_ := Aside0.mk (blk_below (g := gb242) (o := .cells #[.int .i64 1, .int .i64 0, .int .i64 1000] 26 (0, 0)) (by (with_reducible repeat first | apply bN | apply bD | apply bA); refine blk_put (cs := #[.int .i64 1, .int .i64 0, .int .i64 0]) ?_ 2 _ rfl; (with_reducible repeat first | apply bN | apply bD | apply bA); refine blk_put (cs := #[.int .i64 1, .int .i64 0, .int .i64 0]) ?_ 1 _ rfl; (with_reducible repeat first | apply bN | apply bD | apply bA); refine blk_put (cs := #[.int .i64 0, .int .i64 0, .int .i64 0]) ?_ 0 _ rfl; (with_reducible repeat first | apply bN | apply bD | apply bA); exact BK242.out) hb); have n16_ := Aside0.mk (below_step (eG HB.out) hb); clear HO218; clear HO220; clear HO222; clear HO224; clear HO227; clear HO229; clear HO231; clear HO233; clear HO236; clear HO238; clear HO241; clear BK225; clear BK234; clear BK239; clear BK242; clear HB; have HO218 := n0_; have HO220 := n1_; have HO222 := n2_; have HO224 := n3_; have HO227 := n4_; have HO229 := n5_; have HO231 := n6_; have HO233 := n7_; have HO236 := n8_; have HO238 := n9_; have HO241 := n10_; have HO244 := n11_; have BK225 := n12_; have BK234 := n13_; have BK239 := n14_; have BK242 := n15_; have HB := n16_; clear n0_ n1_ n2_ n3_ n4_ n5_ n6_ n7_ n8_ n9_ n10_ n11_ n12_ n13_ n14_ n15_ n16_; (try clear hb); (try clear hb2); (try clear hk); (try clear hi); (try clear ho0); obtain ⟨Ao67, co67, eo67⟩ := Kd.R_slice HO244.out; subst eo67) | ((with_reducible refine gate_callee (f := 13) rfl ?_); refine goesL_ (some 70) rfl rfl Tryz.func13 (by kernel_rfl) rfl #[.agg #[.int .i64 3, .slice Ao67 [(⟨1, 0, 1000⟩ : S26), (⟨1, 100, 1500⟩ : S26)].length co67]] rfl (by (try simp only [List.map_toArray, List.map_cons, List.map_nil]); first | done | rfl | (simp only [List.length_drop, List.length_take]; rfl)) ?_; (with_reducible refine (tariff_Check.calls 400 3 _ _ [(⟨1, 0, 1000⟩ : S26), (⟨1, 100, 1500⟩ : S26)] (-1) 0 _ ?side1 ?side2 A19.out).mono ?_); (case side1 => repeat (first | exact (Kd.R_reads' HO244.out).2.2 | (with_reducible refine Kd.C_alloc ?_ _) | (with_reducible refine Kd.C_drewN ?_ _) | (with_reducible refine Kd.C_drew ?_))); (case side2 => exact (Kd.R_reads' HO244.out).2.1); rintro e w68 ⟨rfl, hb⟩; refine ⟨_, rfl, ?_⟩; have n0_ := Aside0.mk (Kd.R_below (rG HO218.out) hb); have n1_ := Aside0.mk (Kd.R_below (rG HO220.out) hb); have n2_ := Aside0.mk (Kd.R_below (rG HO222.out) hb); have n3_ := Aside0.mk (Kd.R_below (rG HO224.out) hb); have n4_ := Aside0.mk (Kd.R_below (rG HO227.out) hb); have n5_ := Aside0.mk (Kd.R_below (rG HO229.out) hb); have n6_ := Aside0.mk (Kd.R_below (rG HO231.out) hb); have n7_ := Aside0.mk (Kd.R_below (rG HO233.out) hb); have n8_ := Aside0.mk (Kd.R_below (rG HO236.out) hb); have n9_ := Aside0.mk (Kd.R_below (rG HO238.out) hb); have n10_ := Aside0.mk (Kd.R_below (rG HO241.out) hb); have n11_ := Aside0.mk (Kd.R_below (rG HO244.out) hb); have n12_ := Aside0.mk (blk_below (bG BK225.out) hb); have n13_ := Aside0.mk (blk_below (bG BK234.out) hb); have n14_ := Aside0.mk (blk_below (bG BK239.out) hb); have n15_ := Aside0.mk (blk_below (bG BK242.out) hb); have n16_ := Aside0.mk (below_step (eG HB.out) hb); clear HO218; clear HO220; clear HO222; clear HO224; clear HO227; clear HO229; clear HO231; clear HO233; clear HO236; clear HO238; clear HO241; clear HO244; clear BK225; clear BK234; clear BK239; clear BK242; clear HB; have HO218 := n0_; have HO220 := n1_; have HO222 := n2_; have HO224 := n3_; have HO227 := n4_; have HO229 := n5_; have HO231 := n6_; have HO233 := n7_; have HO236 := n8_; have HO238 := n9_; have HO241 := n10_; have HO244 := n11_; have BK225 := n12_; have BK234 := n13_; have BK239 := n14_; have BK242 := n15_; have HB := n16_; clear n0_ n1_ n2_ n3_ n4_ n5_ n6_ n7_ n8_ n9_ n10_ n11_ n12_ n13_ n14_ n15_ n16_; (try clear hb); (try clear hb2); (try clear hk); (try clear hi); have hcz69_0 : w68.cell? ⟨gb225, 0, none⟩ = some (.int .i64 1) := (blk_cell BK225.out 0).trans rfl; have hcz69_1 : w68.cell? ⟨gb225, 1, none⟩ = some (.int .i64 100) := (blk_cell BK225.out 1).trans rfl; have hcz69_2 : w68.cell? ⟨gb225, 2, none⟩ = some (.int .i64 1500) := (blk_cell BK225.out 2).trans rfl; have hfz69_0 := blk_frozen BK225.out 0; have hfz69_1 := blk_frozen BK225.out 1; have hfz69_2 := blk_frozen BK225.out 2) | ((with_reducible refine gate_dst (N := 112) rfl ?_); (try (refine gate_guard (by rfl) ?_; dsimp only)); refine Kd.R_lit (Kd.int .i64) _ 3 ?hg (N := 112) ?hd (xs := ([100] : List Int)) (inner := [.int .i64 100]) (ok := fun _ => True) (okp := fun _ => True) ?hr ?hp (fun _ hk => hk) trivial (Below.refl _ _) (Nat.le_refl _) (by simp) ?_; (case hd => rfl); (case hg => rfl); (case hr => first | (go_simp; done) | (go_simp; rfl)); (case hp => exact (Reps.one (show Kd.M (Kd.int .i64) _ _ _ 100 [.int .i64 100] from rfl) (Reps.none _ _))); intro v246 w70 ho71 hb hg_ hnew_; clear hg_ hnew_; (first | rw [← Ny245.out] at ho71 | (simp only [Int.reduceToNat] at ho71; rw [← Ny245.out] at ho71)); have n0_ := Aside0.mk (Kd.R_below (rG HO218.out) hb); have n1_ := Aside0.mk (Kd.R_below (rG HO220.out) hb); have n2_ := Aside0.mk (Kd.R_below (rG HO222.out) hb); have n3_ := Aside0.mk (Kd.R_below (rG HO224.out) hb); have n4_ := Aside0.mk (Kd.R_below (rG HO227.out) hb); have n5_ := Aside0.mk (Kd.R_elder' (rG HO229.out) (Kd.R_base ho71) hb); have n6_ := Aside0.mk (Kd.R_below (rG HO231.out) hb); have n7_ := Aside0.mk (Kd.R_below (rG HO233.out) hb); have n8_ := Aside0.mk (Kd.R_below (rG HO236.out) hb); have n9_ := Aside0.mk (Kd.R_below (rG HO238.out) hb); have n10_ := Aside0.mk (Kd.R_below (rG HO241.out) hb); have n11_ := Aside0.mk (Kd.R_below (rG HO244.out) hb); have n12_ := Aside0.mk (Kd.R_lower (Kd.R_new' ho71 (Kd.R_lt (rG HO229.out))) (below_size (eG HB.out))); have n13_ := Aside0.mk (blk_below (bG BK225.out) hb); have n14_ := Aside0.mk (blk_below (bG BK234.out) hb); have n15_ := Aside0.mk (blk_below (bG BK239.out) hb); have n16_ := Aside0.mk (blk_below (bG BK242.out) hb); have n17_ := Aside0.mk (below_step (eG HB.out) hb); clear HO218; clear HO220; clear HO222; clear HO224; clear HO227; clear HO229; clear HO231; clear HO233; clear HO236; clear HO238; clear HO241; clear HO244; clear BK225; clear BK234; clear BK239; clear BK242; clear HB; have HO218 := n0_; have HO220 := n1_; have HO222 := n2_; have HO224 := n3_; have HO227 := n4_; have HO229 := n5_; have HO231 := n6_; have HO233 := n7_; have HO236 := n8_; have HO238 := n9_; have HO241 := n10_; have HO244 := n11_; have HO247 := n12_; have BK225 := n13_; have BK234 := n14_; have BK239 := n15_; have BK242 := n16_; have HB := n17_; clear n0_ n1_ n2_ n3_ n4_ n5_ n6_ n7_ n8_ n9_ n10_ n11_ n12_ n13_ n14_ n15_ n16_ n17_; clear hb ho71; obtain ⟨Ao72, co72, eo72⟩ := Kd.R_slice HO229.out; subst eo72; obtain ⟨Ao73, co73, eo73⟩ := Kd.R_slice HO247.out; subst eo73) | (go_at_call 25; refine calls_of_args (args' := #[.slice Ao72 ([100] : List Int).length co72, .slice Ao73 y245.length co73]) (by first | rfl | done) ?_; (with_reducible refine (slices_Equal_int_int.calls 400 _ _ ([100] : List Int) _ _ y245 true _ ?side1 ?side2 ?side3 ?side4 A20.out).mono ?_); (case side1 => repeat (first | exact (Kd.R_reads' HO229.out).2.2 | (with_reducible refine Kd.C_alloc ?_ _) | (with_reducible refine Kd.C_drewN ?_ _) | (with_reducible refine Kd.C_drew ?_))); (case side2 => exact (Kd.R_reads' HO229.out).2.1); (case side3 => repeat (first | exact (Kd.R_reads' HO247.out).2.2 | (with_reducible refine Kd.C_alloc ?_ _) | (with_reducible refine Kd.C_drewN ?_ _) | (with_reducible refine Kd.C_drew ?_))); (case side4 => exact (Kd.R_reads' HO247.out).2.1); rintro e w' ⟨rfl, ⟨nd, rfl⟩⟩; have hcz74_0 : w70.cell? ⟨gb234, 0, none⟩ = some (.int .i64 2) := (blk_cell BK234.out 0).trans rfl; have hcz74_1 : w70.cell? ⟨gb234, 1, none⟩ = some (.slice Ao49 [(⟨2, 7, 9⟩ : S26)].length co49) := (blk_cell BK234.out 1).trans rfl; have hfz74_0 := blk_frozen BK234.out 0; have hfz74_1 := blk_frozen BK234.out 1) | ((with_reducible refine gate_dst (N := 126) rfl ?_); (try (refine gate_guard (by rfl) ?_; dsimp only)); refine Kd.R_lit k26 _ 26 ?hg (N := 126) ?hd (xs := ([(⟨2, 7, 9⟩ : S26)] : List (S26))) (inner := [.int .i64 2, .int .i64 7, .int .i64 9]) (ok := fun _ => True) (okp := fun _ => True) ?hr ?hp (fun _ hk => hk) trivial (Below.refl _ _) (Nat.le_refl _) (by simp) ?_; (case hd => rfl); (case hg => rfl); (case hr => first | (go_simp; done) | (go_simp; rfl)); (case hp => exact (Reps.c3 (show Kd.M k26 _ _ _ (⟨2, 7, 9⟩ : S26) [.int .i64 2, .int .i64 7, .int .i64 9] from (k26_mkM _ _ _ (⟨2, 7, 9⟩ : S26) )) (Reps.none _ _))); intro v249 w75 ho76 hb hg_ hnew_; clear hg_ hnew_; (first | rw [← Ny248.out] at ho76 | (simp only [Int.reduceToNat] at ho76; rw [← Ny248.out] at ho76)); have n0_ := Aside0.mk (Kd.R_elder' (rG HO218.out) (Kd.R_base ho76) hb); have n1_ := Aside0.mk (Kd.R_elder' (rG HO220.out) (Kd.R_base ho76) hb); have n2_ := Aside0.mk (Kd.R_elder' (rG HO222.out) (Kd.R_base ho76) hb); have n3_ := Aside0.mk (Kd.R_elder' (rG HO224.out) (Kd.R_base ho76) hb); have n4_ := Aside0.mk (Kd.R_elder' (rG HO227.out) (Kd.R_base ho76) hb); have n5_ := Aside0.mk (Kd.R_below (rG HO229.out) hb); have n6_ := Aside0.mk (Kd.R_elder' (rG HO231.out) (Kd.R_base ho76) hb); have n7_ := Aside0.mk (Kd.R_elder' (rG HO233.out) (Kd.R_base ho76) hb); have n8_ := Aside0.mk (Kd.R_elder' (rG HO236.out) (Kd.R_base ho76) hb); have n9_ := Aside0.mk (Kd.R_elder' (rG HO238.out) (Kd.R_base ho76) hb); have n10_ := Aside0.mk (Kd.R_elder' (rG HO241.out) (Kd.R_base ho76) hb); have n11_ := Aside0.mk (Kd.R_elder' (rG HO244.out) (Kd.R_base ho76) hb); have n12_ := Aside0.mk (Kd.R_below (rG HO247.out) hb); have n13_ := Aside0.mk (Kd.R_lower (Kd.R_newB (Kd.R_newB (Kd.R_new' (Kd.R_new' (Kd.R_new' (Kd.R_new' (Kd.R_new' (Kd.R_new' (Kd.R_new' (Kd.R_new' (Kd.R_new' (Kd.R_new' (Kd.R_new' ho76 (Kd.R_lt (rG HO218.out))) (Kd.R_lt (rG HO220.out))) (Kd.R_lt (rG HO222.out))) (Kd.R_lt (rG HO224.out))) (Kd.R_lt (rG HO227.out))) (Kd.R_lt (rG HO231.out))) (Kd.R_lt (rG HO233.out))) (Kd.R_lt (rG HO236.out))) (Kd.R_lt (rG HO238.out))) (Kd.R_lt (rG HO241.out))) (Kd.R_lt (rG HO244.out))) (bG BK225.out)) (bG BK242.out)) (below_size (eG HB.out))); have n14_ := Aside0.mk (blk_below (bG BK225.out) hb); have n15_ := Aside0.mk (blk_below (bG BK234.out) hb); have n16_ := Aside0.mk (blk_below (bG BK239.out) hb); have n17_ := Aside0.mk (blk_below (bG BK242.out) hb); have n18_ := Aside0.mk (below_step (eG HB.out) hb); clear HO218; clear HO220; clear HO222; clear HO224; clear HO227; clear HO229; clear HO231; clear HO233; clear HO236; clear HO238; clear HO241; clear HO244; clear HO247; clear BK225; clear BK234; clear BK239; clear BK242; clear HB; have HO218 := n0_; have HO220 := n1_; have HO222 := n2_; have HO224 := n3_; have HO227 := n4_; have HO229 := n5_; have HO231 := n6_; have HO233 := n7_; have HO236 := n8_; have HO238 := n9_; have HO241 := n10_; have HO244 := n11_; have HO247 := n12_; have HO250 := n13_; have BK225 := n14_; have BK234 := n15_; have BK239 := n16_; have BK242 := n17_; have HB := n18_; clear n0_ n1_ n2_ n3_ n4_ n5_ n6_ n7_ n8_ n9_ n10_ n11_ n12_ n13_ n14_ n15_ n16_ n17_ n18_; clear hb ho76; obtain ⟨Ao77, co77, eo77⟩ := Kd.R_slice HO250.out; subst eo77) | (go_at_call 18; refine calls_of_args (args' := #[.agg #[.int .i64 2, .slice Ao49 [(⟨2, 7, 9⟩ : S26)].length co49], .agg #[.int .i64 2, .slice Ao77 y248.length co77]]) (by first | rfl | done) ?_; (with_reducible refine (spileref46_Same.calls 400 2 _ _ [(⟨2, 7, 9⟩ : S26)] 2 _ _ y248 true _ ?side1 ?side2 ?side3 ?side4 A21.out).mono ?_); (case side1 => repeat (first | exact (Kd.R_reads' HO233.out).2.2 | (with_reducible refine Kd.C_alloc ?_ _) | (with_reducible refine Kd.C_drewN ?_ _) | (with_reducible refine Kd.C_drew ?_))); (case side2 => exact (Kd.R_reads' HO233.out).2.1); (case side3 => repeat (first | exact (Kd.R_reads' HO250.out).2.2 | (with_reducible refine Kd.C_alloc ?_ _) | (with_reducible refine Kd.C_drewN ?_ _) | (with_reducible refine Kd.C_drew ?_))); (case side4 => exact (Kd.R_reads' HO250.out).2.1); rintro e w78 ⟨rfl, hb⟩; have n0_ := Aside0.mk (Kd.R_below (rG HO218.out) hb); have n1_ := Aside0.mk (Kd.R_below (rG HO220.out) hb); have n2_ := Aside0.mk (Kd.R_below (rG HO222.out) hb); have n3_ := Aside0.mk (Kd.R_below (rG HO224.out) hb); have n4_ := Aside0.mk (Kd.R_below (rG HO227.out) hb); have n5_ := Aside0.mk (Kd.R_below (rG HO229.out) hb); have n6_ := Aside0.mk (Kd.R_below (rG HO231.out) hb); have n7_ := Aside0.mk (Kd.R_below (rG HO233.out) hb); have n8_ := Aside0.mk (Kd.R_below (rG HO236.out) hb); have n9_ := Aside0.mk (Kd.R_below (rG HO238.out) hb); have n10_ := Aside0.mk (Kd.R_below (rG HO241.out) hb); have n11_ := Aside0.mk (Kd.R_below (rG HO244.out) hb); have n12_ := Aside0.mk (Kd.R_below (rG HO247.out) hb); have n13_ := Aside0.mk (Kd.R_below (rG HO250.out) hb); have n14_ := Aside0.mk (blk_below (bG BK225.out) hb); have n15_ := Aside0.mk (blk_below (bG BK234.out) hb); have n16_ := Aside0.mk (blk_below (bG BK239.out) hb); have n17_ := Aside0.mk (blk_below (bG BK242.out) hb); have n18_ := Aside0.mk (below_step (eG HB.out) hb); clear HO218; clear HO220; clear HO222; clear HO224; clear HO227; clear HO229; clear HO231; clear HO233; clear HO236; clear HO238; clear HO241; clear HO244; clear HO247; clear HO250; clear BK225; clear BK234; clear BK239; clear BK242; clear HB; have HO218 := n0_; have HO220 := n1_; have HO222 := n2_; have HO224 := n3_; have HO227 := n4_; have HO229 := n5_; have HO231 := n6_; have HO233 := n7_; have HO236 := n8_; have HO238 := n9_; have HO241 := n10_; have HO244 := n11_; have HO247 := n12_; have HO250 := n13_; have BK225 := n14_; have BK234 := n15_; have BK239 := n16_; have BK242 := n17_; have HB := n18_; clear n0_ n1_ n2_ n3_ n4_ n5_ n6_ n7_ n8_ n9_ n10_ n11_ n12_ n13_ n14_ n15_ n16_ n17_ n18_; (try clear hb); (try clear hb2); (try clear hk); (try clear hi); have hcz79_0 : w78.cell? ⟨gb239, 0, none⟩ = some (.int .i64 3) := (blk_cell BK239.out 0).trans rfl; have hcz79_1 : w78.cell? ⟨gb239, 1, none⟩ = some (.slice Ao57 [(⟨1, 0, 1000⟩ : S26), (⟨1, 50, 7⟩ : S26), (⟨1, 100, 1500⟩ : S26)].length co57) := (blk_cell BK239.out 1).trans rfl; have hfz79_0 := blk_frozen BK239.out 0; have hfz79_1 := blk_frozen BK239.out 1; have p251 : 0 ≤ (1 : Int) := (by omega); have q251 : 1 < ([(⟨1, 0, 1000⟩ : S26), (⟨1, 50, 7⟩ : S26), (⟨1, 100, 1500⟩ : S26)].length : Int) := of_decide_eq_true (by first | (with_reducible assumption) | assumption); obtain ⟨ad251, e251, hx251_0, hx251_1, hx251_2⟩ := at_T26 (Kd.R_reads' HO238.out).2.2 1 p251 q251; cases e251; (try simp only [show (1 : Int).toNat = 1 from rfl, Nat.reduceMul, Nat.reduceEqDiff, Go.Addr.add, ↓reduceIte] at hx251_0); (try simp only [show (1 : Int).toNat = 1 from rfl, Nat.reduceMul, Nat.reduceEqDiff, Go.Addr.add, ↓reduceIte] at hx251_1); (try simp only [show (1 : Int).toNat = 1 from rfl, Nat.reduceMul, Nat.reduceEqDiff, Go.Addr.add, ↓reduceIte] at hx251_2); have qi251 : (1 < [(⟨1, 0, 1000⟩ : S26), (⟨1, 50, 7⟩ : S26), (⟨1, 100, 1500⟩ : S26)].length) = True := eq_true (by omega); (try rw [show ((1 : Int)).toNat = 1 from rfl] at hx251_0); (try rw [show 1 * 3 = 3 from rfl] at hx251_0); (try rw [show ((1 : Int)).toNat = 1 from rfl] at hx251_1); (try rw [show 1 * 3 = 3 from rfl] at hx251_1); (try rw [show ((1 : Int)).toNat = 1 from rfl] at hx251_2); (try rw [show 1 * 3 = 3 from rfl] at hx251_2); replace p251 := eq_true p251; replace q251 := eq_true q251; have hcz80_0 : w78.cell? ⟨gb242, 0, none⟩ = some (.int .i64 1) := (blk_cell BK242.out 0).trans rfl; have hcz80_1 : w78.cell? ⟨gb242, 1, none⟩ = some (.int .i64 0) := (blk_cell BK242.out 1).trans rfl; have hcz80_2 : w78.cell? ⟨gb242, 2, none⟩ = some (.int .i64 1000) := (blk_cell BK242.out 2).trans rfl; have hfz80_0 := blk_frozen BK242.out 0; have hfz80_1 := blk_frozen BK242.out 1; have hfz80_2 := blk_frozen BK242.out 2))
    go_ret
    exact ⟨by first | rfl | (simp [errW_none, errW_some] <;> rfl) | (simp [*, errW_none, errW_some] <;> rfl), eG HB.out⟩
   · rw [if_neg c24] at H; exact (c24 rfl).elim
  · rw [if_neg c23] at H; exact absurd H (by simp)
 · rw [if_neg c22] at H; exact (c22 rfl).elim
def spileref46_Few.f (a0_0 : Int) (l0_1 : List (S26)) : Option (Bool) := if (l0_1.length : Int) ≤ 20 then (some true) else (some ((l0_1.length : Int) == 65))
set_option maxHeartbeats 8000000 in
set_option maxRecDepth 100000 in
theorem spileref46_Few.calls (a0_0 : Int) (A0_1 : Option Addr) (c0_1 : Nat) (l0_1 : List (S26)) (r : Bool) (w : World) (hr0_1 : Kd.C k26 w A0_1 l0_1.length l0_1) (hc0_1 : l0_1.length ≤ c0_1) (h : spileref46_Few.f a0_0 l0_1 = some r) :
  Calls Tryz.prog 12 #[.agg #[.int .i64 a0_0, .slice A0_1 l0_1.length c0_1]] w fun e w' => e = .returned (.bool r) ∧ Below w.heap.size w w' := by
 have hu24 := Tryz.underlying24; have HR0_1 := Aside0.mk hr0_1; have HC0_1 := Aside0.mk hc0_1; clear hr0_1 hc0_1; have HB := Aside0.mk (Below.refl w.heap.size w); have H : (if (l0_1.length : Int) ≤ 20 then (some true) else (some ((l0_1.length : Int) == 65))) = some r := h; clear h; by_cases c2 : (l0_1.length : Int) ≤ 20
 ·
  rw [if_pos c2] at H; have c2b0 : decide ((l0_1.length : Int) ≤ 20) = true := decide_eq_true c2; have c2b1 : decide (l0_1.length ≤ 20) = true := decide_eq_true (by omega); clear c2; obtain rfl := Option.some.inj H; go_enter Tryz.func12, Tryz.ntmps12
  go_wp2_with (first | ((with_reducible refine gate_dst (N := 1) rfl ?_); (try (refine gate_guard (by rfl) ?_; dsimp only)); refine box_event ?hg (N := 1) ?hd (cs := #[.int .i64 a0_0, .slice A0_1 l0_1.length c0_1]) (t := 24) ?hr ?_; (case hd => rfl); (case hg => rfl); (case hr => first | (go_simp; done) | (go_simp; rfl)); intro gb252 hg w3 hbox hb; have n0_ := Aside0.mk (below_step (eG HB.out) hb); have n1_ := Aside0.mk (hbox); have n2_ := Aside0.mk ((by rw [hg]; exact (below_size (eG HB.out)) : w.heap.size ≤ gb252)); have n3_ := Aside0.mk ((by rw [hg]; exact (below_size (eG HB.out)) : w.heap.size ≤ gb252)); clear HB; have HB := n0_; have BK252 := n1_; have GW252 := n2_; have GE252 := n3_; have ig252_ := geI GE252; clear n0_ n1_ n2_ n3_; clear hb hbox hg; have hcz4_0 : w3.cell? ⟨gb252, 0, none⟩ = some (.int .i64 a0_0) := (blk_cell BK252.out 0).trans rfl; have hcz4_1 : w3.cell? ⟨gb252, 1, none⟩ = some (.slice A0_1 l0_1.length c0_1) := (blk_cell BK252.out 1).trans rfl; have hfz4_0 := blk_frozen BK252.out 0; have hfz4_1 := blk_frozen BK252.out 1))
  go_ret
  exact ⟨by first | rfl | (simp [errW_none, errW_some] <;> rfl) | (simp [*, errW_none, errW_some] <;> rfl), eG HB.out⟩
 ·
  rw [if_neg c2] at H; have c2b0 : decide ((l0_1.length : Int) ≤ 20) = false := decide_eq_false c2; have c2b1 : decide (l0_1.length ≤ 20) = false := decide_eq_false (by omega); clear c2; obtain rfl := Option.some.inj H; go_enter Tryz.func12, Tryz.ntmps12
  go_wp2_with (first | ((with_reducible refine gate_dst (N := 1) rfl ?_); (try (refine gate_guard (by rfl) ?_; dsimp only)); refine box_event ?hg (N := 1) ?hd (cs := #[.int .i64 a0_0, .slice A0_1 l0_1.length c0_1]) (t := 24) ?hr ?_; (case hd => rfl); (case hg => rfl); (case hr => first | (go_simp; done) | (go_simp; rfl)); intro gb252 hg w5 hbox hb; have n0_ := Aside0.mk (below_step (eG HB.out) hb); have n1_ := Aside0.mk (hbox); have n2_ := Aside0.mk ((by rw [hg]; exact (below_size (eG HB.out)) : w.heap.size ≤ gb252)); have n3_ := Aside0.mk ((by rw [hg]; exact (below_size (eG HB.out)) : w.heap.size ≤ gb252)); clear HB; have HB := n0_; have BK252 := n1_; have GW252 := n2_; have GE252 := n3_; have ig252_ := geI GE252; clear n0_ n1_ n2_ n3_; clear hb hbox hg; have hcz6_0 : w5.cell? ⟨gb252, 0, none⟩ = some (.int .i64 a0_0) := (blk_cell BK252.out 0).trans rfl; have hcz6_1 : w5.cell? ⟨gb252, 1, none⟩ = some (.slice A0_1 l0_1.length c0_1) := (blk_cell BK252.out 1).trans rfl; have hfz6_0 := blk_frozen BK252.out 0; have hfz6_1 := blk_frozen BK252.out 1))
  go_ret
  exact ⟨by first | rfl | (simp [errW_none, errW_some] <;> rfl) | (simp [*, errW_none, errW_some] <;> rfl), eG HB.out⟩
def spilelaw46_cp.f (a0_0 : Int) (l0_1 : List (S26)) : Option (Int × (List (S26))) := (slices_Clone26.f l0_1).bind fun t255 => (some (a0_0, t255))
set_option maxHeartbeats 8000000 in
set_option maxRecDepth 100000 in
theorem spilelaw46_cp.calls (a0_0 : Int) (A0_1 : Option Addr) (c0_1 : Nat) (l0_1 : List (S26)) (r1 : Int) (r2 : List (S26)) (w : World) (hr0_1 : Kd.C k26 w A0_1 l0_1.length l0_1) (hc0_1 : l0_1.length ≤ c0_1) (h : spilelaw46_cp.f a0_0 l0_1 = some (r1, r2)) :
  Calls Tryz.prog 14 #[.agg #[.int .i64 a0_0, .slice A0_1 l0_1.length c0_1]] w fun e w' => ∃ v1_ : Value, e = .returned (.agg #[.int .i64 r1, v1_]) ∧ Kd.R k26 26 w' w.heap.size (fun _ => True) v1_ r2 ∧ Below w.heap.size w w' := by
 have hu24 := Tryz.underlying24; have HR0_1 := Aside0.mk hr0_1; have HC0_1 := Aside0.mk hc0_1; clear hr0_1 hc0_1; have HB := Aside0.mk (Below.refl w.heap.size w); have H : ((slices_Clone26.f l0_1).bind fun t255 => (some (a0_0, t255))) = some (r1, r2) := h; clear h; replace H := Option.bind_eq_some_iff.mp H; obtain ⟨t255, A20, H⟩ := H; replace H : (some (a0_0, t255)) = some (r1, r2) := H; have A2 := Aside0.mk A20; clear A20; simp only [Option.some.injEq, Prod.mk.injEq] at H; obtain ⟨rfl, rfl⟩ := H; go_enter Tryz.func14, Tryz.ntmps14
 go_wp2_with (first | ((with_reducible refine gate_dst (N := 1) rfl ?_); refine box_event ?hg (N := 1) ?hd (cs := #[.int .i64 a0_0, .slice A0_1 l0_1.length c0_1]) (t := 24) ?hr ?_; (case hd => rfl); (case hg => rfl); (case hr => first | (go_simp; done) | (go_simp; rfl)); intro gb253 hg w3 hbox hb; have n0_ := Aside0.mk (below_step (eG HB.out) hb); have n1_ := Aside0.mk (hbox); have n2_ := Aside0.mk ((by rw [hg]; exact (below_size (eG HB.out)) : w.heap.size ≤ gb253)); have n3_ := Aside0.mk ((by rw [hg]; exact (below_size (eG HB.out)) : w.heap.size ≤ gb253)); clear HB; have HB := n0_; have BK253 := n1_; have GW253 := n2_; have GE253 := n3_; have ig253_ := geI GE253; clear n0_ n1_ n2_ n3_; clear hb hbox hg) | ((with_reducible refine gate_dst (N := 2) rfl ?_); refine box_event ?hg (N := 2) ?hd (cs := #[.int .i64 0, .slice none 0 0]) (t := 24) ?hr ?_; (case hd => rfl); (case hg => rfl); (case hr => first | (go_simp; done) | (go_simp; rfl)); intro gb254 hg w4 hbox hb; have n0_ := Aside0.mk (blk_below (bG BK253.out) hb); have n1_ := Aside0.mk (below_step (eG HB.out) hb); have n2_ := Aside0.mk (hbox); have n3_ := Aside0.mk ((by rw [hg]; exact (below_size (eG HB.out)) : w.heap.size ≤ gb254)); have n4_ := Aside0.mk ((by rw [hg]; exact (below_size (eG HB.out)) : w.heap.size ≤ gb254)); have n5_ := Aside0.mk ((by rw [hg]; exact Nat.ne_of_lt (blk_lt (bG BK253.out)) : gb253 ≠ gb254)); have n6_ := Aside0.mk ((by rw [hg]; exact Nat.ne_of_gt (blk_lt (bG BK253.out)) : gb254 ≠ gb253)); clear BK253; clear HB; have BK253 := n0_; have HB := n1_; have BK254 := n2_; have GW254 := n3_; have GE254 := n4_; have ig254_ := geI GE254; have NB253_254 := n5_; have NB254_253 := n6_; clear n0_ n1_ n2_ n3_ n4_ n5_ n6_; clear hb hbox hg; have hnb5 := NB253_254.out; have hnc5 := NB254_253.out; have hcz6_0 : w4.cell? ⟨gb253, 0, none⟩ = some (.int .i64 a0_0) := (blk_cell BK253.out 0).trans rfl; have hcz6_1 : w4.cell? ⟨gb253, 1, none⟩ = some (.slice A0_1 l0_1.length c0_1) := (blk_cell BK253.out 1).trans rfl; have hfz6_0 := blk_frozen BK253.out 0; have hfz6_1 := blk_frozen BK253.out 1) | ((with_reducible refine gate_callee (f := 38) rfl ?_); refine goesL_ (some 5) rfl rfl Tryz.func38 (by kernel_rfl) rfl #[.slice A0_1 l0_1.length c0_1] rfl (by (try simp only [List.map_toArray, List.map_cons, List.map_nil]); first | done | rfl | (simp only [List.length_drop, List.length_take]; rfl)) ?_; (with_reducible refine (slices_Clone26.calls _ _ l0_1 t255 _ ?side1 ?side2 A2.out).mono ?_); (case side1 => repeat (first | exact (Kd.C_below HR0_1.out HB.out) | (with_reducible refine Kd.C_alloc ?_ _) | (with_reducible refine Kd.C_drewN ?_ _) | (with_reducible refine Kd.C_drew ?_))); (case side2 => exact HC0_1.out); rintro e w7 ⟨v256, rfl, ho0, hb⟩; refine ⟨_, rfl, ?_⟩; have n0_ := Aside0.mk (Kd.R_lower ho0 (below_size (eG HB.out))); have n1_ := Aside0.mk (blk_below (bG BK253.out) hb); have n2_ := Aside0.mk (blk_below (bG BK254.out) hb); have n3_ := Aside0.mk (below_step (eG HB.out) hb); clear BK253; clear BK254; clear HB; have HO257 := n0_; have BK253 := n1_; have BK254 := n2_; have HB := n3_; clear n0_ n1_ n2_ n3_; (try clear hb); (try clear hb2); (try clear hk); (try clear hi); (try clear ho0); obtain ⟨Ao8, co8, eo8⟩ := Kd.R_slice HO257.out; subst eo8; have hcz9_0 : w7.cell? ⟨gb253, 0, none⟩ = some (.int .i64 a0_0) := (blk_cell BK253.out 0).trans rfl; have hcz9_1 : w7.cell? ⟨gb253, 1, none⟩ = some (.slice A0_1 l0_1.length c0_1) := (blk_cell BK253.out 1).trans rfl; have hfz9_0 := blk_frozen BK253.out 0; have hfz9_1 := blk_frozen BK253.out 1; have hcz10_0 : w7.cell? ⟨gb254, 0, none⟩ = some (.int .i64 0) := (blk_cell BK254.out 0).trans rfl; have hcz10_1 : w7.cell? ⟨gb254, 1, none⟩ = some (.slice none 0 0) := (blk_cell BK254.out 1).trans rfl; have hfz10_0 := blk_frozen BK254.out 0; have hfz10_1 := blk_frozen BK254.out 1))
 refine bodyPost_ret (results_cell_row rfl _ _ gb254 24 #[.int .i64 a0_0, .slice Ao8 t255.length co8] (0, 0) _ rfl (by (with_reducible repeat first | apply bN | apply bD | apply bA); refine blk_put (cs := #[.int .i64 a0_0, .slice none 0 0]) ?_ 1 _ rfl; (with_reducible repeat first | apply bN | apply bD | apply bA); refine blk_put (cs := #[.int .i64 0, .slice none 0 0]) ?_ 0 _ rfl; (with_reducible repeat first | apply bN | apply bD | apply bA); refine blk_far ?_ NB254_253.out _; (with_reducible repeat first | apply bN | apply bD | apply bA); exact BK254.out) Tryz.underlying24 rfl (by kernel_rfl)) rfl ?_; exact ⟨_, by first | rfl | (simp [errW_none, errW_some] <;> rfl) | (simp [*, errW_none, errW_some] <;> rfl), by (with_reducible repeat (first | apply Kd.R_alloc | apply Kd.R_drewN | apply Kd.R_drew)); exact Kd.R_mono (Kd.R_far (p := ⟨gb254, 1, none⟩) (Kd.R_far (p := ⟨gb254, 0, none⟩) (Kd.R_far (p := ⟨gb253, 1, none⟩) (Kd.R_types (Kd.R_types HO257.out BK253.out (by decide)) BK254.out (by decide)) (fun _ hk => hk.1.2) (.slice Ao8 t255.length co8)) (fun _ hk => hk.2) (.int .i64 a0_0)) (fun _ hk => hk.2) (.slice Ao8 t255.length co8)) (fun _ hk => trivial), eG HB.out⟩
def spileref46_right.f (a0_0 : Int) (a0_1 : Int) (a0_2 : Int) : Option (Bool) := if a0_0 ≥ 1 then (if a0_0 ≤ 9 then (if a0_1 ≥ 0 then (if a0_1 ≤ 100000 then (if a0_2 ≥ 0 then (some (decide (a0_2 ≤ 1000000))) else (some false)) else (some false)) else (some false)) else (some false)) else (some false)
def spileref46_before.f (a0_0 : Int) (a0_1 : Int) (a0_2 : Int) (a1_0 : Int) (a1_1 : Int) (a1_2 : Int) : Option (Bool) := if a0_0 < a1_0 then (some true) else (if a0_0 = a1_0 then (some (decide (a0_1 < a1_1))) else (some false))
end Go.Proofs.YtholbmidciapdaaGreatDoor.Pr
namespace Go.Proofs.YtholbmidciapdaaGreatDoor.Pr
open Go.RowKit Go.Proofs.YtholbmidciapdaaGreatDoorW.PrintWords Go.Proofs.YtholbmidciapdaaGreatDoorW.PrintLast Go.Proofs.YtholbmidciapdaaGreatDoorW.PrintMore Go.Proofs.YtholbmidciapdaaGreatDoor.X
attribute [local go_sem] max2_int min2_int max_two min_two max_three min_three max_four min_four   -- for this text's walks alone
set_option linter.unusedVariables false
set_option linter.unusedSimpArgs false
def bits_Mul64.f (a0 : Int) (a1 : Int) : Option (Int × Int) := some (IntKind.u64.wrap ((IntKind.u64.wrap ((IntKind.u64.wrap ((a0 / 4294967296) * (a1 / 4294967296))) + ((IntKind.u64.wrap ((IntKind.u64.wrap ((a0 / 4294967296) * (Go.bits .and .u64 a1 4294967295))) + ((IntKind.u64.wrap ((Go.bits .and .u64 a0 4294967295) * (Go.bits .and .u64 a1 4294967295))) / 4294967296))) / 4294967296))) + ((IntKind.u64.wrap ((Go.bits .and .u64 (IntKind.u64.wrap ((IntKind.u64.wrap ((a0 / 4294967296) * (Go.bits .and .u64 a1 4294967295))) + ((IntKind.u64.wrap ((Go.bits .and .u64 a0 4294967295) * (Go.bits .and .u64 a1 4294967295))) / 4294967296))) 4294967295) + (IntKind.u64.wrap ((Go.bits .and .u64 a0 4294967295) * (a1 / 4294967296))))) / 4294967296)), IntKind.u64.wrap (a0 * a1))
set_option maxHeartbeats 8000000 in
set_option maxRecDepth 100000 in
theorem bits_Mul64.calls (a0 : Int) (a1 : Int) (r1 : Int) (r2 : Int) (w : World) (h : bits_Mul64.f a0 a1 = some (r1, r2)) :
  Calls Tryz.prog 32 #[.int .u64 a0, .int .u64 a1] w fun e w' => e = .returned (.tuple #[.int .u64 r1, .int .u64 r2]) ∧ Drawn0 w w' := by
 have H : (some (IntKind.u64.wrap ((IntKind.u64.wrap ((IntKind.u64.wrap ((a0 / 4294967296) * (a1 / 4294967296))) + ((IntKind.u64.wrap ((IntKind.u64.wrap ((a0 / 4294967296) * (Go.bits .and .u64 a1 4294967295))) + ((IntKind.u64.wrap ((Go.bits .and .u64 a0 4294967295) * (Go.bits .and .u64 a1 4294967295))) / 4294967296))) / 4294967296))) + ((IntKind.u64.wrap ((Go.bits .and .u64 (IntKind.u64.wrap ((IntKind.u64.wrap ((a0 / 4294967296) * (Go.bits .and .u64 a1 4294967295))) + ((IntKind.u64.wrap ((Go.bits .and .u64 a0 4294967295) * (Go.bits .and .u64 a1 4294967295))) / 4294967296))) 4294967295) + (IntKind.u64.wrap ((Go.bits .and .u64 a0 4294967295) * (a1 / 4294967296))))) / 4294967296)), IntKind.u64.wrap (a0 * a1))) = some (r1, r2) := h; clear h; simp only [Option.some.injEq, Prod.mk.injEq] at H; obtain ⟨rfl, rfl⟩ := H; go_enter Tryz.func32, Tryz.ntmps32
 go_wp2; go_ret2
 exact ⟨by first | rfl | (simp; done) | (simp [*]; done), by repeat (first | exact Drawn0.refl _ | apply Drawn0.step)⟩
def bits_Sub64.f (a0 a1 a2 : Int) : Option (Int × Int) := if 0 ≤ a0 ∧ 0 ≤ a1 ∧ a1 < 18446744073709551616 ∧ (a2 = 0 ∨ a2 = 1) then some ((a0 + 18446744073709551616 - a1 - a2) % 18446744073709551616, if a0 < a1 + a2 then 1 else 0) else none
theorem goesE_ {P : Program} {ops : Array Oper} {Q : Exit → Act → World → Prop} {rest : List Oper} {oi : Oper} {a : Act} {w : World} (N : Option Tmp) (hd : oi.dst = N) (hg : oi.guard = none) {f : FuncId} {ags : Array Operand} {ts : Array TypeId} (args : Array Value)
  (hop : oi.op = .call { callee := .value (.func f), args := ags, argTypes := ts }) (hargs : ags.map a.eval = args) {v : Value} (hv : (callFunc f args).run P w = .ok (.value v) w)
  (h : wpList P ops Q rest (a.put N v) w) : wpList P ops Q (oi :: rest) a w := by
 refine wpList_plain hg fun K hK => ?_
 have hrun : (execOp a.eval oi).run P w = .ok (.value v) w := by
  unfold execOp
  simp [hop, resolve, Deferred.ofValue, invoke, Act.eval, hargs, hv]
 unfold Oper.wp
 rw [hrun]
 subst hd
 exact hK _ _ h
theorem bits_Sub64.run (x y b d c : Int) (w : World) (h : bits_Sub64.f x y b = some (d, c)) : (callFunc 33 #[.int .u64 x, .int .u64 y, .int .u64 b]).run Tryz.prog w = .ok (.value (.tuple #[.int .u64 d, .int .u64 c])) w := by
 unfold bits_Sub64.f at h
 by_cases hc : 0 ≤ x ∧ 0 ≤ y ∧ y < 18446744073709551616 ∧ (b = 0 ∨ b = 1)
 case neg => rw [if_neg hc] at h; cases h
 rw [if_pos hc] at h
 simp only [Option.some.injEq, Prod.mk.injEq] at h
 obtain ⟨rfl, rfl⟩ := h
 obtain ⟨h0, h1, h2, h3⟩ := hc
 obtain ⟨xn, rfl⟩ : ∃ n : Nat, x = (n : Int) := ⟨x.toNat, by omega⟩
 obtain ⟨yn, rfl⟩ : ∃ n : Nat, y = (n : Int) := ⟨y.toNat, by omega⟩
 obtain ⟨bn, rfl⟩ : ∃ n : Nat, b = (n : Int) := ⟨b.toNat, by omega⟩
 rw [run_callFunc_extern Tryz.func33 (by kernel_rfl) (by kernel_rfl) (by kernel_rfl) (e := sub64Entry) (by kernel_rfl), run_sub64 xn yn bn (by omega)]
 simp only [Result.andThen]
 have e1 : (((xn + 18446744073709551616 - yn - bn) % 18446744073709551616 : Nat) : Int) = ((xn : Int) + 18446744073709551616 - (yn : Int) - (bn : Int)) % 18446744073709551616 := by omega
 have e2 : ((if xn < yn + bn then 1 else 0 : Nat) : Int) = if (xn : Int) < (yn : Int) + (bn : Int) then 1 else 0 := by
  by_cases q : xn < yn + bn
  ·
   rw [if_pos q, if_pos (by omega)]; rfl
  ·
   rw [if_neg q, if_neg (by omega)]; rfl
 rw [e1, e2]
end Go.Proofs.YtholbmidciapdaaGreatDoor.Pr
namespace Go.Proofs.YtholbmidciapdaaGreatDoor.Pr
open Go.RowKit Go.Proofs.YtholbmidciapdaaGreatDoorW.PrintWords Go.Proofs.YtholbmidciapdaaGreatDoorW.PrintLast Go.Proofs.YtholbmidciapdaaGreatDoorW.PrintMore Go.Proofs.YtholbmidciapdaaGreatDoor.X
attribute [local go_sem] max2_int min2_int max_two min_two max_three min_three max_four min_four   -- for this text's walks alone
set_option linter.unusedVariables false
set_option linter.unusedSimpArgs false
mutual
def spilelaw46_TariffNear.j0 : Nat → Int → Int → Int → Bool → Int → List (S26) → Option (Bool)
 | 0, _, _, _, _, _, _ => none
 | k + 1, x1, x2, x3, x28, x653000, x653001 => if x28 = true then ((spilelaw46_awake.f).bind fun t655 => (some t655)) else ((spilelaw46_cp.f x653000 x653001).bind fun bt656 => ((tariff_Duty.f k bt656.1 bt656.2 x1 x2 x3).bind fun bt660 => ((spilelaw46_cp.f x653000 x653001).bind fun bt662 => ((tariff_At.f k bt662.1 bt662.2 x1 x2).bind fun bt666 => (if bt660.2 = 0 then (spilelaw46_TariffNear.j1 k x3 bt660.1 bt660.2 bt666.2.2.2 (bt666.2.2.2 != 0) x653000 x653001 bt666.1 bt666.2.1 bt666.2.2.1) else (spilelaw46_TariffNear.j1 k x3 bt660.1 bt660.2 bt666.2.2.2 true x653000 x653001 bt666.1 bt666.2.1 bt666.2.2.1))))))
def spilelaw46_TariffNear.j1 : Nat → Int → Int → Int → Int → Bool → Int → List (S26) → Int → Int → Int → Option (Bool)
 | 0, _, _, _, _, _, _, _, _, _, _ => none
 | k + 1, x3, x9, x10, x12, x52, x653000, x653001, x671000, x671001, x671002 => if x52 = true then (if x9 = 0 then (if x10 = x12 then (some true) else (if x10 = 2 then (if x3 < 0 then (some true) else (some (decide (x3 > 10737418240000)))) else (some false))) else (some false)) else (if x9 < 0 then (spilelaw46_TariffNear.j2 k x3 x9 true x653000 x653001 x671000 x671001 x671002) else (if x9 > 1125899906842624 then (spilelaw46_TariffNear.j2 k x3 x9 true x653000 x653001 x671000 x671001 x671002) else (spilelaw46_TariffNear.j2 k x3 x9 (decide (x671002 < 0)) x653000 x653001 x671000 x671001 x671002)))
def spilelaw46_TariffNear.j2 : Nat → Int → Int → Bool → Int → List (S26) → Int → Int → Int → Option (Bool)
 | 0, _, _, _, _, _, _, _, _ => none
 | k + 1, x3, x9, x82, x653000, x653001, x671000, x671001, x671002 => if x82 = true then (some false) else ((bits_Mul64.f (IntKind.u64.wrap (x671002)) (IntKind.u64.wrap (x3))).bind fun bt671 => ((bits_Mul64.f (IntKind.u64.wrap (x9)) 10000000).bind fun bt673 => ((bits_Sub64.f bt671.2 bt673.2 0).bind fun bt675 => ((bits_Sub64.f bt671.1 bt673.1 bt675.2).bind fun bt677 => (if bt677.1 = 0 then (spilelaw46_TariffNear.j3 k x9 bt675.1 bt677.1 false x653000 x653001) else (spilelaw46_TariffNear.j3 k x9 bt675.1 bt677.1 (bt677.1 != 18446744073709551615) x653000 x653001))))))
def spilelaw46_TariffNear.j3 : Nat → Int → Int → Int → Bool → Int → List (S26) → Option (Bool)
 | 0, _, _, _, _, _, _ => none
 | k + 1, x9, x17, x19, x116, x653000, x653001 => if x116 = true then (some false) else (if x19 = 0 then (if x17 > 10000000 then (spilelaw46_TariffNear.j4 k x9 (wrap64 (2 * (wrap64 (x17)))) true x653000 x653001) else (spilelaw46_TariffNear.j4 k x9 (wrap64 (2 * (wrap64 (x17)))) false x653000 x653001)) else (spilelaw46_TariffNear.j4 k x9 (wrap64 (2 * (wrap64 (x17)))) (decide (x17 < 18446744073699551616)) x653000 x653001))
def spilelaw46_TariffNear.j4 : Nat → Int → Int → Bool → Int → List (S26) → Option (Bool)
 | 0, _, _, _, _, _ => none
 | k + 1, x9, x21, x133, x653000, x653001 => if x133 = true then (some false) else (if x653000 = 1 then (if x21 ≥ 0 then (some (decide (x21 < 20000000))) else (some false)) else (if x653000 = 2 then (if x21 ≤ 0 then (some (decide (x21 > (-20000000)))) else (some false)) else (if x653000 = 3 then (if x21 < 10000000 then (some (decide (x21 ≥ (-10000000)))) else (some false)) else (if x21 ≤ 10000000 then (if x21 ≥ (-10000000) then (if x21 = 10000000 then (some ((Int.tmod x9 2) == 0)) else (if x21 = (-10000000) then (some ((Int.tmod x9 2) == 0)) else (some true))) else (some false)) else (some false)))))
end
def spilelaw46_TariffNear.f (k : Nat) (a0_0 : Int) (l0_1 : List (S26)) (a1 : Int) (a2 : Int) (a3 : Int) : Option (Bool) := (spilelaw46_awake.f).bind fun t653 => (if t653 = true then ((spileref46_Few.f a0_0 l0_1).bind fun t654 => (spilelaw46_TariffNear.j0 k a1 a2 a3 (!t654) a0_0 l0_1)) else (spilelaw46_TariffNear.j0 k a1 a2 a3 true a0_0 l0_1))
set_option maxHeartbeats 8000000 in
set_option maxRecDepth 100000 in
theorem spilelaw46_TariffNear.calls (k : Nat) (a0_0 : Int) (A0_1 : Option Addr) (c0_1 : Nat) (l0_1 : List (S26)) (a1 : Int) (a2 : Int) (a3 : Int) (r : Bool) (w : World) (hr0_1 : Kd.C k26 w A0_1 l0_1.length l0_1) (hc0_1 : l0_1.length ≤ c0_1) (hG : GI w) (hr_ : r = true) (h : spilelaw46_TariffNear.f k a0_0 l0_1 a1 a2 a3 = some r) :
  Calls Tryz.prog 10 #[.agg #[.int .i64 a0_0, .slice A0_1 l0_1.length c0_1], .int .i64 a1, .int .i64 a2, .int .i64 a3] w fun e w' => e = .returned (.bool r) ∧ Below w.heap.size w w' := by
 have hu24 := Tryz.underlying24; have hu26 := Tryz.underlying26; have HR0_1 := Aside0.mk hr0_1; have HC0_1 := Aside0.mk hc0_1; clear hr0_1 hc0_1; have HG := Aside0.mk hG; clear hG; have HB := Aside0.mk (Below.refl w.heap.size w); have H : ((spilelaw46_awake.f).bind fun t653 => (if t653 = true then ((spileref46_Few.f a0_0 l0_1).bind fun t654 => (spilelaw46_TariffNear.j0 k a1 a2 a3 (!t654) a0_0 l0_1)) else (spilelaw46_TariffNear.j0 k a1 a2 a3 true a0_0 l0_1))) = some r := h; clear h; have HC5 := Aside0.mk H; clear H; go_enter Tryz.func10, Tryz.ntmps10
 go_upto_region 1 with (first | ((with_reducible refine gate_dst (N := 4) rfl ?_); refine box_event ?hg (N := 4) ?hd (cs := #[.int .i64 a0_0, .slice A0_1 l0_1.length c0_1]) (t := 24) ?hr ?_; (case hd => rfl); (case hg => rfl); (case hr => first | (go_simp; done) | (go_simp; rfl)); intro gb652 hg w6 hbox hb; have n0_ := Aside0.mk (below_step (eG HB.out) hb); have n1_ := Aside0.mk (hbox); have n2_ := Aside0.mk ((by rw [hg]; exact (below_size (eG HB.out)) : w.heap.size ≤ gb652)); have n3_ := Aside0.mk ((by rw [hg]; exact (below_size (eG HB.out)) : w.heap.size ≤ gb652)); clear HB; have HB := n0_; have BK652 := n1_; have GW652 := n2_; have GE652 := n3_; have ig652_ := geI GE652; clear n0_ n1_ n2_ n3_; clear hb hbox hg))
 (try simp only [Act.put, sIA, sC0, sCS])
 go_cut [28] (fun v28 wc => ∃ (kq : Nat) (x28_4 : Bool), v28 = .bool x28_4 ∧ Aside0 (spilelaw46_TariffNear.j0 kq a1 a2 a3 x28_4 a0_0 l0_1 = some r) ∧ Aside0 (kq ≤ k) ∧ Aside0 (wc.heap[gb652]? = some (.cells #[.int .i64 a0_0, (.slice A0_1 l0_1.length c0_1)] 24 (0, 0))) ∧ Aside0 (Below w.heap.size w wc))
 case first =>
  have H := HC5.out; clear HC5; replace H := Option.bind_eq_some_iff.mp H; obtain ⟨t653, A70, H⟩ := H; replace H : (if t653 = true then ((spileref46_Few.f a0_0 l0_1).bind fun t654 => (spilelaw46_TariffNear.j0 k a1 a2 a3 (!t654) a0_0 l0_1)) else (spilelaw46_TariffNear.j0 k a1 a2 a3 true a0_0 l0_1)) = some r := H; have A7 := Aside0.mk A70; clear A70; by_cases c8 : t653 = true
  ·
   subst c8; replace H : ((spileref46_Few.f a0_0 l0_1).bind fun t654 => (spilelaw46_TariffNear.j0 k a1 a2 a3 (!t654) a0_0 l0_1)) = some r := by rw [if_pos rfl] at H; exact H
   replace H := Option.bind_eq_some_iff.mp H; obtain ⟨t654, A90, H⟩ := H; replace H : (spilelaw46_TariffNear.j0 k a1 a2 a3 (!t654) a0_0 l0_1) = some r := H; have A9 := Aside0.mk A90; clear A90; have H' := Aside0.mk H; clear H; go_wp2_with (first | ((with_reducible refine gate_callee (f := 11) rfl ?_); refine goesL_ (some 22) rfl rfl Tryz.func11 (by kernel_rfl) rfl #[] rfl (by (try simp only [List.map_toArray, List.map_cons, List.map_nil]); first | done | rfl | (simp only [List.length_drop, List.length_take]; rfl)) ?_; (with_reducible refine (spilelaw46_awake.calls  true _ ?side1 A7.out).mono ?_); (case side1 => exact GI.below HG.out (eG HB.out)); rintro e w10 ⟨rfl, hb⟩; refine ⟨_, rfl, ?_⟩; have n0_ := Aside0.mk (blk_below (bG BK652.out) hb); have n1_ := Aside0.mk (below_step (eG HB.out) hb); clear BK652; clear HB; have BK652 := n0_; have HB := n1_; clear n0_ n1_; (try clear hb); (try clear hb2); (try clear hk); (try clear hi); have hcz11_0 : w10.cell? ⟨gb652, 0, none⟩ = some (.int .i64 a0_0) := (blk_cell BK652.out 0).trans rfl; have hcz11_1 : w10.cell? ⟨gb652, 1, none⟩ = some (.slice A0_1 l0_1.length c0_1) := (blk_cell BK652.out 1).trans rfl; have hfz11_0 := blk_frozen BK652.out 0; have hfz11_1 := blk_frozen BK652.out 1) | (go_at_call 12; (with_reducible refine (spileref46_Few.calls a0_0 _ _ l0_1 t654 _ ?side1 ?side2 A9.out).mono ?_); (case side1 => repeat (first | exact (Kd.C_below HR0_1.out HB.out) | (with_reducible refine Kd.C_alloc ?_ _) | (with_reducible refine Kd.C_drewN ?_ _) | (with_reducible refine Kd.C_drew ?_))); (case side2 => exact HC0_1.out); rintro e w12 ⟨rfl, hb⟩; have n0_ := Aside0.mk (blk_below (bG BK652.out) hb); have n1_ := Aside0.mk (below_step (eG HB.out) hb); clear BK652; clear HB; have BK652 := n0_; have HB := n1_; clear n0_ n1_; (try clear hb); (try clear hb2); (try clear hk); (try clear hi)))
   go_meet
   case rel => exact ⟨_, (!t654), (by first | rfl | (simp; done) | (simp [*]; done)), H', ⟨by first | omega | exact Nat.le_refl _⟩, ⟨by (with_reducible repeat first | apply bN | apply bD | apply bA); exact BK652.out⟩, ⟨eG HB.out⟩⟩
  ·
   replace c8 := Bool.eq_false_iff.mpr c8; subst c8; replace H : (spilelaw46_TariffNear.j0 k a1 a2 a3 true a0_0 l0_1) = some r := by rw [if_neg (show ¬ (false = true) by decide)] at H; exact H
   have H' := Aside0.mk H; clear H; go_wp2_with (first | ((with_reducible refine gate_callee (f := 11) rfl ?_); refine goesL_ (some 22) rfl rfl Tryz.func11 (by kernel_rfl) rfl #[] rfl (by (try simp only [List.map_toArray, List.map_cons, List.map_nil]); first | done | rfl | (simp only [List.length_drop, List.length_take]; rfl)) ?_; (with_reducible refine (spilelaw46_awake.calls  false _ ?side1 A7.out).mono ?_); (case side1 => exact GI.below HG.out (eG HB.out)); rintro e w13 ⟨rfl, hb⟩; refine ⟨_, rfl, ?_⟩; have n0_ := Aside0.mk (blk_below (bG BK652.out) hb); have n1_ := Aside0.mk (below_step (eG HB.out) hb); clear BK652; clear HB; have BK652 := n0_; have HB := n1_; clear n0_ n1_; (try clear hb); (try clear hb2); (try clear hk); (try clear hi)))
   go_meet
   case rel => exact ⟨_, (true), (by first | rfl | (simp; done) | (simp [*]; done)), H', ⟨by first | omega | exact Nat.le_refl _⟩, ⟨by (with_reducible repeat first | apply bN | apply bD | apply bA); exact BK652.out⟩, ⟨eG HB.out⟩⟩
 case rest =>
  clear HC5; repeat first | clear c1 | clear p2 | clear c8 | clear c10 | clear c11 | clear hcz11_0 | clear hcz11_1 | clear hfz11_0 | clear hfz11_1
  obtain ⟨kq, x28_4, rfl, HA, HJ4, BK652, HB⟩ := hcut
  cases kq with
  | zero => exact absurd HA.out (by simp [spilelaw46_TariffNear.j0])
  | succ kj4 =>
   have H := HA.out; clear HA; simp only [spilelaw46_TariffNear.j0] at H; by_cases c14 : x28_4 = true
   ·
    subst c14; replace H : ((spilelaw46_awake.f).bind fun t655 => (some t655)) = some r := by rw [if_pos rfl] at H; exact H
    replace H := Option.bind_eq_some_iff.mp H; obtain ⟨t655, A150, H⟩ := H; replace H : (some t655) = some r := H; have A15 := Aside0.mk A150; clear A150; obtain rfl := Option.some.inj H; go_wp2_with (first | ((with_reducible refine gate_callee (f := 11) rfl ?_); refine goesL_ (some 29) rfl rfl Tryz.func11 (by kernel_rfl) rfl #[] rfl (by (try simp only [List.map_toArray, List.map_cons, List.map_nil]); first | done | rfl | (simp only [List.length_drop, List.length_take]; rfl)) ?_; (with_reducible refine (spilelaw46_awake.calls  t655 _ ?side1 A15.out).mono ?_); (case side1 => exact GI.below HG.out (eG HB.out)); rintro e w16 ⟨rfl, hb⟩; refine ⟨_, rfl, ?_⟩; have n0_ := Aside0.mk (blk_below (bG BK652.out) hb); have n1_ := Aside0.mk (below_step (eG HB.out) hb); clear BK652; clear HB; have BK652 := n0_; have HB := n1_; clear n0_ n1_; (try clear hb); (try clear hb2); (try clear hk); (try clear hi)))
    go_ret
    exact ⟨by first | rfl | (simp [errW_none, errW_some] <;> rfl) | (simp [*, errW_none, errW_some] <;> rfl), eG HB.out⟩
   ·
    replace c14 := Bool.eq_false_iff.mpr c14; subst c14; replace H : ((spilelaw46_cp.f a0_0 l0_1).bind fun bt656 => ((tariff_Duty.f kj4 bt656.1 bt656.2 a1 a2 a3).bind fun bt660 => ((spilelaw46_cp.f a0_0 l0_1).bind fun bt662 => ((tariff_At.f kj4 bt662.1 bt662.2 a1 a2).bind fun bt666 => (if bt660.2 = 0 then (spilelaw46_TariffNear.j1 kj4 a3 bt660.1 bt660.2 bt666.2.2.2 (bt666.2.2.2 != 0) a0_0 l0_1 bt666.1 bt666.2.1 bt666.2.2.1) else (spilelaw46_TariffNear.j1 kj4 a3 bt660.1 bt660.2 bt666.2.2.2 true a0_0 l0_1 bt666.1 bt666.2.1 bt666.2.2.1)))))) = some r := by rw [if_neg (show ¬ (false = true) by decide)] at H; exact H
    replace H := Option.bind_eq_some_iff.mp H; obtain ⟨⟨t656, t657⟩, A170, H⟩ := H; replace H : ((tariff_Duty.f kj4 t656 t657 a1 a2 a3).bind fun bt660 => ((spilelaw46_cp.f a0_0 l0_1).bind fun bt662 => ((tariff_At.f kj4 bt662.1 bt662.2 a1 a2).bind fun bt666 => (if bt660.2 = 0 then (spilelaw46_TariffNear.j1 kj4 a3 bt660.1 bt660.2 bt666.2.2.2 (bt666.2.2.2 != 0) a0_0 l0_1 bt666.1 bt666.2.1 bt666.2.2.1) else (spilelaw46_TariffNear.j1 kj4 a3 bt660.1 bt660.2 bt666.2.2.2 true a0_0 l0_1 bt666.1 bt666.2.1 bt666.2.2.1))))) = some r := H; have A17 := Aside0.mk A170; clear A170; replace H := Option.bind_eq_some_iff.mp H; obtain ⟨⟨t660, t661⟩, A180, H⟩ := H; replace H : ((spilelaw46_cp.f a0_0 l0_1).bind fun bt662 => ((tariff_At.f kj4 bt662.1 bt662.2 a1 a2).bind fun bt666 => (if t661 = 0 then (spilelaw46_TariffNear.j1 kj4 a3 t660 t661 bt666.2.2.2 (bt666.2.2.2 != 0) a0_0 l0_1 bt666.1 bt666.2.1 bt666.2.2.1) else (spilelaw46_TariffNear.j1 kj4 a3 t660 t661 bt666.2.2.2 true a0_0 l0_1 bt666.1 bt666.2.1 bt666.2.2.1)))) = some r := H; have A18 := Aside0.mk A180; clear A180; replace H := Option.bind_eq_some_iff.mp H; obtain ⟨⟨t662, t663⟩, A190, H⟩ := H; replace H : ((tariff_At.f kj4 t662 t663 a1 a2).bind fun bt666 => (if t661 = 0 then (spilelaw46_TariffNear.j1 kj4 a3 t660 t661 bt666.2.2.2 (bt666.2.2.2 != 0) a0_0 l0_1 bt666.1 bt666.2.1 bt666.2.2.1) else (spilelaw46_TariffNear.j1 kj4 a3 t660 t661 bt666.2.2.2 true a0_0 l0_1 bt666.1 bt666.2.1 bt666.2.2.1))) = some r := H; have A19 := Aside0.mk A190; clear A190; replace H := Option.bind_eq_some_iff.mp H; obtain ⟨⟨t666, t667, t668, t669⟩, A200, H⟩ := H; replace H : (if t661 = 0 then (spilelaw46_TariffNear.j1 kj4 a3 t660 t661 t669 (t669 != 0) a0_0 l0_1 t666 t667 t668) else (spilelaw46_TariffNear.j1 kj4 a3 t660 t661 t669 true a0_0 l0_1 t666 t667 t668)) = some r := H; have A20 := Aside0.mk A200; clear A200; have HC21 := Aside0.mk H; clear H; have hcz22_0 : wc.cell? ⟨gb652, 0, none⟩ = some (.int .i64 a0_0) := (blk_cell BK652.out 0).trans rfl; have hcz22_1 : wc.cell? ⟨gb652, 1, none⟩ = some (.slice A0_1 l0_1.length c0_1) := (blk_cell BK652.out 1).trans rfl; have hfz22_0 := blk_frozen BK652.out 0; have hfz22_1 := blk_frozen BK652.out 1; go_upto_region 5 with (first | ((with_reducible refine gate_callee (f := 14) rfl ?_); refine goesL_ (some 32) rfl rfl Tryz.func14 (by kernel_rfl) rfl #[.agg #[.int .i64 a0_0, .slice A0_1 l0_1.length c0_1]] rfl (by (try simp only [List.map_toArray, List.map_cons, List.map_nil]); first | done | rfl | (simp only [List.length_drop, List.length_take]; rfl)) ?_; (with_reducible refine (spilelaw46_cp.calls a0_0 _ _ l0_1 t656 t657 _ ?side1 ?side2 A17.out).mono ?_); (case side1 => repeat (first | exact (Kd.C_below HR0_1.out HB.out) | (with_reducible refine Kd.C_alloc ?_ _) | (with_reducible refine Kd.C_drewN ?_ _) | (with_reducible refine Kd.C_drew ?_))); (case side2 => exact HC0_1.out); rintro e w23 ⟨v658, rfl, ho0, hb⟩; refine ⟨_, rfl, ?_⟩; have n0_ := Aside0.mk (Kd.R_lower ho0 (below_size (eG HB.out))); have n1_ := Aside0.mk (blk_below (bG BK652.out) hb); have n2_ := Aside0.mk (below_step (eG HB.out) hb); clear BK652; clear HB; have HO659 := n0_; have BK652 := n1_; have HB := n2_; clear n0_ n1_ n2_; (try clear hb); (try clear hb2); (try clear hk); (try clear hi); (try clear ho0); obtain ⟨Ao24, co24, eo24⟩ := Kd.R_slice HO659.out; subst eo24) | ((with_reducible refine gate_callee (f := 26) rfl ?_); refine goesL_ (some 36) rfl rfl Tryz.func26 (by kernel_rfl) rfl #[.agg #[.int .i64 t656, .slice Ao24 t657.length co24], .int .i64 a1, .int .i64 a2, .int .i64 a3] rfl (by (try simp only [List.map_toArray, List.map_cons, List.map_nil]); first | done | rfl | (simp only [List.length_drop, List.length_take]; rfl)) ?_; (with_reducible refine (tariff_Duty.calls kj4 t656 _ _ t657 a1 a2 a3 t660 t661 _ ?side1 ?side2 A18.out).mono ?_); (case side1 => repeat (first | exact (Kd.R_reads' HO659.out).2.2 | (with_reducible refine Kd.C_alloc ?_ _) | (with_reducible refine Kd.C_drewN ?_ _) | (with_reducible refine Kd.C_drew ?_))); (case side2 => exact (Kd.R_reads' HO659.out).2.1); rintro e w25 ⟨rfl, hb⟩; refine ⟨_, rfl, ?_⟩; have n0_ := Aside0.mk (Kd.R_below (rG HO659.out) hb); have n1_ := Aside0.mk (blk_below (bG BK652.out) hb); have n2_ := Aside0.mk (below_step (eG HB.out) hb); clear HO659; clear BK652; clear HB; have HO659 := n0_; have BK652 := n1_; have HB := n2_; clear n0_ n1_ n2_; (try clear hb); (try clear hb2); (try clear hk); (try clear hi); have hcz26_0 : w25.cell? ⟨gb652, 0, none⟩ = some (.int .i64 a0_0) := (blk_cell BK652.out 0).trans rfl; have hcz26_1 : w25.cell? ⟨gb652, 1, none⟩ = some (.slice A0_1 l0_1.length c0_1) := (blk_cell BK652.out 1).trans rfl; have hfz26_0 := blk_frozen BK652.out 0; have hfz26_1 := blk_frozen BK652.out 1) | ((with_reducible refine gate_callee (f := 14) rfl ?_); refine goesL_ (some 41) rfl rfl Tryz.func14 (by kernel_rfl) rfl #[.agg #[.int .i64 a0_0, .slice A0_1 l0_1.length c0_1]] rfl (by (try simp only [List.map_toArray, List.map_cons, List.map_nil]); first | done | rfl | (simp only [List.length_drop, List.length_take]; rfl)) ?_; (with_reducible refine (spilelaw46_cp.calls a0_0 _ _ l0_1 t662 t663 _ ?side1 ?side2 A19.out).mono ?_); (case side1 => repeat (first | exact (Kd.C_below HR0_1.out HB.out) | (with_reducible refine Kd.C_alloc ?_ _) | (with_reducible refine Kd.C_drewN ?_ _) | (with_reducible refine Kd.C_drew ?_))); (case side2 => exact HC0_1.out); rintro e w27 ⟨v664, rfl, ho0, hb⟩; refine ⟨_, rfl, ?_⟩; have n0_ := Aside0.mk (Kd.R_elder' (rG HO659.out) (Kd.R_base ho0) hb); have n1_ := Aside0.mk (Kd.R_lower (Kd.R_new' ho0 (Kd.R_lt (rG HO659.out))) (below_size (eG HB.out))); have n2_ := Aside0.mk (blk_below (bG BK652.out) hb); have n3_ := Aside0.mk (below_step (eG HB.out) hb); clear HO659; clear BK652; clear HB; have HO659 := n0_; have HO665 := n1_; have BK652 := n2_; have HB := n3_; clear n0_ n1_ n2_ n3_; (try clear hb); (try clear hb2); (try clear hk); (try clear hi); (try clear ho0); obtain ⟨Ao28, co28, eo28⟩ := Kd.R_slice HO665.out; subst eo28) | ((with_reducible refine gate_callee (f := 19) rfl ?_); refine goesL_ (some 44) rfl rfl Tryz.func19 (by kernel_rfl) rfl #[.agg #[.int .i64 t662, .slice Ao28 t663.length co28], .int .i64 a1, .int .i64 a2] rfl (by (try simp only [List.map_toArray, List.map_cons, List.map_nil]); first | done | rfl | (simp only [List.length_drop, List.length_take]; rfl)) ?_; (with_reducible refine (tariff_At.calls kj4 t662 _ _ t663 a1 a2 t666 t667 t668 t669 _ ?side1 ?side2 A20.out).mono ?_); (case side1 => repeat (first | exact (Kd.R_reads' HO665.out).2.2 | (with_reducible refine Kd.C_alloc ?_ _) | (with_reducible refine Kd.C_drewN ?_ _) | (with_reducible refine Kd.C_drew ?_))); (case side2 => exact (Kd.R_reads' HO665.out).2.1); rintro e w29 ⟨rfl, hb⟩; refine ⟨_, rfl, ?_⟩; have n0_ := Aside0.mk (Kd.R_below (rG HO659.out) hb); have n1_ := Aside0.mk (Kd.R_below (rG HO665.out) hb); have n2_ := Aside0.mk (blk_below (bG BK652.out) hb); have n3_ := Aside0.mk (below_step (eG HB.out) hb); clear HO659; clear HO665; clear BK652; clear HB; have HO659 := n0_; have HO665 := n1_; have BK652 := n2_; have HB := n3_; clear n0_ n1_ n2_ n3_; (try clear hb); (try clear hb2); (try clear hk); (try clear hi)) | ((with_reducible refine gate_dst (N := 11) rfl ?_); refine box_event ?hg (N := 11) ?hd (cs := #[.int .i64 0, .int .i64 0, .int .i64 0]) (t := 26) ?hr ?_; (case hd => rfl); (case hg => rfl); (case hr => first | (go_simp; done) | (go_simp; rfl)); intro gb670 hg w30 hbox hb; have n0_ := Aside0.mk (Kd.R_below (Kd.R_elderB (rG HO659.out) gb670 (Nat.le_of_eq hg.symm)) hb); have n1_ := Aside0.mk (Kd.R_below (Kd.R_elderB (rG HO665.out) gb670 (Nat.le_of_eq hg.symm)) hb); have n2_ := Aside0.mk (blk_below (bG BK652.out) hb); have n3_ := Aside0.mk (below_step (eG HB.out) hb); have n4_ := Aside0.mk (hbox); have n5_ := Aside0.mk ((by rw [hg]; exact (below_size (eG HB.out)) : w.heap.size ≤ gb670)); have n6_ := Aside0.mk ((by rw [hg]; exact (below_size (eG HB.out)) : w.heap.size ≤ gb670)); have n7_ := Aside0.mk ((by rw [hg]; exact Nat.ne_of_lt (blk_lt (bG BK652.out)) : gb652 ≠ gb670)); have n8_ := Aside0.mk ((by rw [hg]; exact Nat.ne_of_gt (blk_lt (bG BK652.out)) : gb670 ≠ gb652)); clear HO659; clear HO665; clear BK652; clear HB; have HO659 := n0_; have HO665 := n1_; have BK652 := n2_; have HB := n3_; have BK670 := n4_; have GW670 := n5_; have GE670 := n6_; have ig670_ := geI GE670; have NB652_670 := n7_; have NB670_652 := n8_; clear n0_ n1_ n2_ n3_ n4_ n5_ n6_ n7_ n8_; clear hb hbox hg; have hnb31 := NB670_652.out; have hnc31 := NB652_670.out; have hcz32_0 : w30.cell? ⟨gb670, 0, none⟩ = some (.int .i64 0) := (blk_cell BK670.out 0).trans rfl; have hcz32_1 : w30.cell? ⟨gb670, 1, none⟩ = some (.int .i64 0) := (blk_cell BK670.out 1).trans rfl; have hcz32_2 : w30.cell? ⟨gb670, 2, none⟩ = some (.int .i64 0) := (blk_cell BK670.out 2).trans rfl; have hfz32_0 := blk_frozen BK670.out 0; have hfz32_1 := blk_frozen BK670.out 1; have hfz32_2 := blk_frozen BK670.out 2))
    (try simp only [Act.put, sIA, sC0, sCS])
    go_cut [52] (fun v52 wc => ∃ (kq : Nat) (x52_20 : Bool), v52 = .bool x52_20 ∧ Aside0 (spilelaw46_TariffNear.j1 kq a3 t660 t661 t669 x52_20 a0_0 l0_1 t666 t667 t668 = some r) ∧ Aside0 (kq ≤ kj4) ∧ Aside0 (wc.heap[gb652]? = some (.cells #[.int .i64 a0_0, (.slice A0_1 l0_1.length c0_1)] 24 (0, 0))) ∧ Aside0 (wc.heap[gb670]? = some (.cells #[.int .i64 t666, .int .i64 t667, .int .i64 t668] 26 (0, 0))) ∧ Aside0 (Below w.heap.size w wc))
    case first =>
     have H := HC21.out; clear HC21; by_cases c33 : t661 = 0
     ·
      rw [if_pos c33] at H; have c33b0 : (t661 == 0) = true := beq_iff_eq.mpr c33; have c33b1 : (t661 != 0) = false := bne_eq_false_iff_eq.mpr c33; clear c33; (first | rw [c33b0] | (simp only [i64_w, i32_w]; rw [c33b0]) | skip)
      have H' := Aside0.mk H; clear H; go_wp2; go_meet
      case rel => exact ⟨_, ((t669 != 0)), (by first | rfl | (simp; done) | (simp [*]; done)), H', ⟨by have := HJ4.out; first | omega | exact Nat.le_refl _⟩, ⟨by (with_reducible repeat first | apply bN | apply bD | apply bA); refine blk_far ?_ NB652_670.out _; (with_reducible repeat first | apply bN | apply bD | apply bA); refine blk_far ?_ NB652_670.out _; (with_reducible repeat first | apply bN | apply bD | apply bA); refine blk_far ?_ NB652_670.out _; (with_reducible repeat first | apply bN | apply bD | apply bA); exact BK652.out⟩, ⟨by (with_reducible repeat first | apply bN | apply bD | apply bA); refine blk_put (cs := #[.int .i64 t666, .int .i64 t667, .int .i64 0]) ?_ 2 _ rfl; (with_reducible repeat first | apply bN | apply bD | apply bA); refine blk_put (cs := #[.int .i64 t666, .int .i64 0, .int .i64 0]) ?_ 1 _ rfl; (with_reducible repeat first | apply bN | apply bD | apply bA); refine blk_put (cs := #[.int .i64 0, .int .i64 0, .int .i64 0]) ?_ 0 _ rfl; (with_reducible repeat first | apply bN | apply bD | apply bA); exact BK670.out⟩, ⟨eG HB.out⟩⟩
     ·
      rw [if_neg c33] at H; have c33b0 : (t661 == 0) = false := beq_eq_false_iff_ne.mpr c33; have c33b1 : (t661 != 0) = true := bne_iff_ne.mpr c33; (first | rw [c33b0] | (simp only [i64_w, i32_w]; rw [c33b0]) | skip)
      have H' := Aside0.mk H; clear H; go_wp2; go_meet
      case rel => exact ⟨_, (true), (by first | rfl | (simp; done) | (simp [*]; done)), H', ⟨by have := HJ4.out; first | omega | exact Nat.le_refl _⟩, ⟨by (with_reducible repeat first | apply bN | apply bD | apply bA); refine blk_far ?_ NB652_670.out _; (with_reducible repeat first | apply bN | apply bD | apply bA); refine blk_far ?_ NB652_670.out _; (with_reducible repeat first | apply bN | apply bD | apply bA); refine blk_far ?_ NB652_670.out _; (with_reducible repeat first | apply bN | apply bD | apply bA); exact BK652.out⟩, ⟨by (with_reducible repeat first | apply bN | apply bD | apply bA); refine blk_put (cs := #[.int .i64 t666, .int .i64 t667, .int .i64 0]) ?_ 2 _ rfl; (with_reducible repeat first | apply bN | apply bD | apply bA); refine blk_put (cs := #[.int .i64 t666, .int .i64 0, .int .i64 0]) ?_ 1 _ rfl; (with_reducible repeat first | apply bN | apply bD | apply bA); refine blk_put (cs := #[.int .i64 0, .int .i64 0, .int .i64 0]) ?_ 0 _ rfl; (with_reducible repeat first | apply bN | apply bD | apply bA); exact BK670.out⟩, ⟨eG HB.out⟩⟩
    case rest =>
     clear HC21; repeat first | clear c1 | clear c2 | clear p2 | clear c3 | clear c8 | clear c10 | clear c11 | clear c14 | clear c19 | clear c26 | clear c31 | clear c33 | clear c33b0 | clear c33b1 | clear hcz11_0 | clear hcz11_1 | clear hcz22_0 | clear hcz22_1 | clear hcz26_0 | clear hcz26_1 | clear hcz32_0 | clear hcz32_1 | clear hcz32_2 | clear hfz11_0 | clear hfz11_1 | clear hfz22_0 | clear hfz22_1 | clear hfz26_0 | clear hfz26_1 | clear hfz32_0 | clear hfz32_1 | clear hfz32_2 | clear p2
     obtain ⟨kq, x52_20, rfl, HA, HJ20, BK652, BK670, HB⟩ := hcut
     cases kq with
     | zero => exact absurd HA.out (by simp [spilelaw46_TariffNear.j1])
     | succ kj20 =>
      have H := HA.out; clear HA; simp only [spilelaw46_TariffNear.j1] at H; by_cases c34 : x52_20 = true
      ·
       subst c34; replace H : (if t660 = 0 then (if t661 = t669 then (some true) else (if t661 = 2 then (if a3 < 0 then (some true) else (some (decide (a3 > 10737418240000)))) else (some false))) else (some false)) = some r := by rw [if_pos rfl] at H; exact H
       by_cases c35 : t660 = 0
       ·
        rw [if_pos c35] at H; have c35b0 : (t660 == 0) = true := beq_iff_eq.mpr c35; have c35b1 : (t660 != 0) = false := bne_eq_false_iff_eq.mpr c35; clear c35; by_cases c36 : t661 = t669
        ·
         rw [if_pos c36] at H; have c36b0 : (t661 == t669) = true := beq_iff_eq.mpr c36; have c36b1 : (t661 != t669) = false := bne_eq_false_iff_eq.mpr c36; clear c36; obtain rfl := Option.some.inj H; go_wp2; go_ret
         exact ⟨by first | rfl | (simp [errW_none, errW_some] <;> rfl) | (simp [*, errW_none, errW_some] <;> rfl), eG HB.out⟩
        ·
         rw [if_neg c36] at H; have c36b0 : (t661 == t669) = false := beq_eq_false_iff_ne.mpr c36; have c36b1 : (t661 != t669) = true := bne_iff_ne.mpr c36; by_cases c37 : t661 = 2
         ·
          rw [if_pos c37] at H; have c37b0 : (t661 == 2) = true := beq_iff_eq.mpr c37; have c37b1 : (t661 != 2) = false := bne_eq_false_iff_eq.mpr c37; clear c37; by_cases c38 : a3 < 0
          ·
           rw [if_pos c38] at H; have c38b0 : decide (a3 < 0) = true := decide_eq_true c38; clear c38; obtain rfl := Option.some.inj H; go_wp2; go_ret
           exact ⟨by first | rfl | (simp [errW_none, errW_some] <;> rfl) | (simp [*, errW_none, errW_some] <;> rfl), eG HB.out⟩
          ·
           rw [if_neg c38] at H; have c38b0 : decide (a3 < 0) = false := decide_eq_false c38; clear c38; obtain rfl := Option.some.inj H; go_wp2; go_ret
           exact ⟨by first | rfl | (simp [errW_none, errW_some] <;> rfl) | (simp [*, errW_none, errW_some] <;> rfl), eG HB.out⟩
         · rw [if_neg c37] at H; have c37b0 : (t661 == 2) = false := beq_eq_false_iff_ne.mpr c37; have c37b1 : (t661 != 2) = true := bne_iff_ne.mpr c37; subst hr_; exact absurd H (by simp)
       · rw [if_neg c35] at H; have c35b0 : (t660 == 0) = false := beq_eq_false_iff_ne.mpr c35; have c35b1 : (t660 != 0) = true := bne_iff_ne.mpr c35; subst hr_; exact absurd H (by simp)
      ·
       replace c34 := Bool.eq_false_iff.mpr c34; subst c34; replace H : (if t660 < 0 then (spilelaw46_TariffNear.j2 kj20 a3 t660 true a0_0 l0_1 t666 t667 t668) else (if t660 > 1125899906842624 then (spilelaw46_TariffNear.j2 kj20 a3 t660 true a0_0 l0_1 t666 t667 t668) else (spilelaw46_TariffNear.j2 kj20 a3 t660 (decide (t668 < 0)) a0_0 l0_1 t666 t667 t668))) = some r := by rw [if_neg (show ¬ (false = true) by decide)] at H; exact H
       have HC39 := Aside0.mk H; clear H; go_upto_region 7 with (fail)
       go_cut [82] (fun v82 wc => ∃ (kq : Nat) (x82_38 : Bool), v82 = .bool x82_38 ∧ Aside0 (spilelaw46_TariffNear.j2 kq a3 t660 x82_38 a0_0 l0_1 t666 t667 t668 = some r) ∧ Aside0 (kq ≤ kj20) ∧ Aside0 (wc.heap[gb652]? = some (.cells #[.int .i64 a0_0, (.slice A0_1 l0_1.length c0_1)] 24 (0, 0))) ∧ Aside0 (wc.heap[gb670]? = some (.cells #[.int .i64 t666, .int .i64 t667, .int .i64 t668] 26 (0, 0))) ∧ Aside0 (Below w.heap.size w wc))
       case first =>
        have H := HC39.out; clear HC39; by_cases c40 : t660 < 0
        ·
         rw [if_pos c40] at H; have c40b0 : decide (t660 < 0) = true := decide_eq_true c40; clear c40; (first | rw [c40b0] | (simp only [i64_w, i32_w]; rw [c40b0]) | skip)
         have H' := Aside0.mk H; clear H; go_wp2; go_meet
         case rel => exact ⟨_, (true), (by first | rfl | (simp; done) | (simp [*]; done)), H', ⟨by have := HJ4.out; have := HJ20.out; first | omega | exact Nat.le_refl _⟩, ⟨by (with_reducible repeat first | apply bN | apply bD | apply bA); exact BK652.out⟩, ⟨by (with_reducible repeat first | apply bN | apply bD | apply bA); exact BK670.out⟩, ⟨eG HB.out⟩⟩
        ·
         rw [if_neg c40] at H; have c40b0 : decide (t660 < 0) = false := decide_eq_false c40; clear c40; (first | rw [c40b0] | (simp only [i64_w, i32_w]; rw [c40b0]) | skip)
         by_cases c41 : t660 > 1125899906842624
         ·
          rw [if_pos c41] at H; have c41b0 : decide (1125899906842624 < t660) = true := decide_eq_true c41; clear c41; have H' := Aside0.mk H; clear H; go_wp2; go_meet
          case rel => exact ⟨_, (true), (by first | rfl | (simp; done) | (simp [*]; done)), H', ⟨by have := HJ4.out; have := HJ20.out; first | omega | exact Nat.le_refl _⟩, ⟨by (with_reducible repeat first | apply bN | apply bD | apply bA); exact BK652.out⟩, ⟨by (with_reducible repeat first | apply bN | apply bD | apply bA); exact BK670.out⟩, ⟨eG HB.out⟩⟩
         ·
          rw [if_neg c41] at H; have c41b0 : decide (1125899906842624 < t660) = false := decide_eq_false c41; clear c41; have H' := Aside0.mk H; clear H; have hnb42 := NB670_652.out; have hnc42 := NB652_670.out; have hcz43_0 : wc.cell? ⟨gb670, 0, none⟩ = some (.int .i64 t666) := (blk_cell BK670.out 0).trans rfl; have hcz43_1 : wc.cell? ⟨gb670, 1, none⟩ = some (.int .i64 t667) := (blk_cell BK670.out 1).trans rfl; have hcz43_2 : wc.cell? ⟨gb670, 2, none⟩ = some (.int .i64 t668) := (blk_cell BK670.out 2).trans rfl; have hfz43_0 := blk_frozen BK670.out 0; have hfz43_1 := blk_frozen BK670.out 1; have hfz43_2 := blk_frozen BK670.out 2; go_wp2; go_meet
          case rel => exact ⟨_, (decide (t668 < 0)), (by first | rfl | (simp; done) | (simp [*]; done)), H', ⟨by have := HJ4.out; have := HJ20.out; first | omega | exact Nat.le_refl _⟩, ⟨by (with_reducible repeat first | apply bN | apply bD | apply bA); exact BK652.out⟩, ⟨by (with_reducible repeat first | apply bN | apply bD | apply bA); exact BK670.out⟩, ⟨eG HB.out⟩⟩
       case rest =>
        clear HC39; repeat first | clear c1 | clear c2 | clear p2 | clear c3 | clear c4 | clear c8 | clear c10 | clear c11 | clear c14 | clear c19 | clear c26 | clear c31 | clear c33 | clear c33b0 | clear c33b1 | clear c34 | clear c35 | clear c35b0 | clear c35b1 | clear c36 | clear c36b0 | clear c36b1 | clear c37 | clear c37b0 | clear c37b1 | clear c38 | clear c38b0 | clear c40 | clear c40b0 | clear c41 | clear c41b0 | clear c42 | clear hcz11_0 | clear hcz11_1 | clear hcz22_0 | clear hcz22_1 | clear hcz26_0 | clear hcz26_1 | clear hcz32_0 | clear hcz32_1 | clear hcz32_2 | clear hcz43_0 | clear hcz43_1 | clear hcz43_2 | clear hfz11_0 | clear hfz11_1 | clear hfz22_0 | clear hfz22_1 | clear hfz26_0 | clear hfz26_1 | clear hfz32_0 | clear hfz32_1 | clear hfz32_2 | clear hfz43_0 | clear hfz43_1 | clear hfz43_2 | clear p2
        obtain ⟨kq, x82_38, rfl, HA, HJ38, BK652, BK670, HB⟩ := hcut
        cases kq with
        | zero => exact absurd HA.out (by simp [spilelaw46_TariffNear.j2])
        | succ kj38 =>
         have H := HA.out; clear HA; simp only [spilelaw46_TariffNear.j2] at H; by_cases c44 : x82_38 = true
         ·
          subst c44; replace H : (some false) = some r := by rw [if_pos rfl] at H; exact H
          subst hr_; exact absurd H (by simp)
         ·
          replace c44 := Bool.eq_false_iff.mpr c44; subst c44; replace H : ((bits_Mul64.f (IntKind.u64.wrap (t668)) (IntKind.u64.wrap (a3))).bind fun bt671 => ((bits_Mul64.f (IntKind.u64.wrap (t660)) 10000000).bind fun bt673 => ((bits_Sub64.f bt671.2 bt673.2 0).bind fun bt675 => ((bits_Sub64.f bt671.1 bt673.1 bt675.2).bind fun bt677 => (if bt677.1 = 0 then (spilelaw46_TariffNear.j3 kj38 t660 bt675.1 bt677.1 false a0_0 l0_1) else (spilelaw46_TariffNear.j3 kj38 t660 bt675.1 bt677.1 (bt677.1 != 18446744073709551615) a0_0 l0_1)))))) = some r := by rw [if_neg (show ¬ (false = true) by decide)] at H; exact H
          replace H := Option.bind_eq_some_iff.mp H; obtain ⟨⟨t671, t672⟩, A450, H⟩ := H; replace H : ((bits_Mul64.f (IntKind.u64.wrap (t660)) 10000000).bind fun bt673 => ((bits_Sub64.f t672 bt673.2 0).bind fun bt675 => ((bits_Sub64.f t671 bt673.1 bt675.2).bind fun bt677 => (if bt677.1 = 0 then (spilelaw46_TariffNear.j3 kj38 t660 bt675.1 bt677.1 false a0_0 l0_1) else (spilelaw46_TariffNear.j3 kj38 t660 bt675.1 bt677.1 (bt677.1 != 18446744073709551615) a0_0 l0_1))))) = some r := H; have A45 := Aside0.mk A450; clear A450; replace H := Option.bind_eq_some_iff.mp H; obtain ⟨⟨t673, t674⟩, A460, H⟩ := H; replace H : ((bits_Sub64.f t672 t674 0).bind fun bt675 => ((bits_Sub64.f t671 t673 bt675.2).bind fun bt677 => (if bt677.1 = 0 then (spilelaw46_TariffNear.j3 kj38 t660 bt675.1 bt677.1 false a0_0 l0_1) else (spilelaw46_TariffNear.j3 kj38 t660 bt675.1 bt677.1 (bt677.1 != 18446744073709551615) a0_0 l0_1)))) = some r := H; have A46 := Aside0.mk A460; clear A460; replace H := Option.bind_eq_some_iff.mp H; obtain ⟨⟨t675, t676⟩, A470, H⟩ := H; replace H : ((bits_Sub64.f t671 t673 t676).bind fun bt677 => (if bt677.1 = 0 then (spilelaw46_TariffNear.j3 kj38 t660 t675 bt677.1 false a0_0 l0_1) else (spilelaw46_TariffNear.j3 kj38 t660 t675 bt677.1 (bt677.1 != 18446744073709551615) a0_0 l0_1))) = some r := H; have A47 := Aside0.mk A470; clear A470; replace H := Option.bind_eq_some_iff.mp H; obtain ⟨⟨t677, t678⟩, A480, H⟩ := H; replace H : (if t677 = 0 then (spilelaw46_TariffNear.j3 kj38 t660 t675 t677 false a0_0 l0_1) else (spilelaw46_TariffNear.j3 kj38 t660 t675 t677 (t677 != 18446744073709551615) a0_0 l0_1)) = some r := H; have A48 := Aside0.mk A480; clear A480; have HC49 := Aside0.mk H; clear H; have hnb50 := NB670_652.out; have hnc50 := NB652_670.out; have hcz51_0 : wc.cell? ⟨gb670, 0, none⟩ = some (.int .i64 t666) := (blk_cell BK670.out 0).trans rfl; have hcz51_1 : wc.cell? ⟨gb670, 1, none⟩ = some (.int .i64 t667) := (blk_cell BK670.out 1).trans rfl; have hcz51_2 : wc.cell? ⟨gb670, 2, none⟩ = some (.int .i64 t668) := (blk_cell BK670.out 2).trans rfl; have hfz51_0 := blk_frozen BK670.out 0; have hfz51_1 := blk_frozen BK670.out 1; have hfz51_2 := blk_frozen BK670.out 2; go_upto_region 13 with (first | ((with_reducible refine gate_callee (f := 32) rfl ?_); refine goesL_ (some 89) rfl rfl Tryz.func32 (by kernel_rfl) rfl #[.int .u64 (IntKind.u64.wrap (t668)), .int .u64 (IntKind.u64.wrap (a3))] rfl (by (try simp only [List.map_toArray, List.map_cons, List.map_nil]); first | done | rfl | (simp only [List.length_drop, List.length_take]; rfl)) ?_; (with_reducible refine (bits_Mul64.calls (IntKind.u64.wrap (t668)) (IntKind.u64.wrap (a3)) t671 t672 _ A45.out).mono ?_); rintro e w' ⟨rfl, ⟨nd, rfl⟩⟩; refine ⟨_, rfl, ?_⟩) | ((with_reducible refine gate_callee (f := 32) rfl ?_); refine goesL_ (some 95) rfl rfl Tryz.func32 (by kernel_rfl) rfl #[.int .u64 (IntKind.u64.wrap (t660)), .int .u64 10000000] rfl (by (try simp only [List.map_toArray, List.map_cons, List.map_nil]); first | done | rfl | (simp only [List.length_drop, List.length_take]; rfl)) ?_; (with_reducible refine (bits_Mul64.calls (IntKind.u64.wrap (t660)) 10000000 t673 t674 _ A46.out).mono ?_); rintro e w' ⟨rfl, ⟨nd, rfl⟩⟩; refine ⟨_, rfl, ?_⟩) | ((with_reducible refine gate_callee (f := 33) rfl ?_); refine goesE_ (some 101) rfl rfl #[.int .u64 t672, .int .u64 t674, .int .u64 0] rfl (by (try simp only [List.map_toArray, List.map_cons, List.map_nil]); first | done | rfl | (simp only [List.length_drop, List.length_take]; rfl)) (bits_Sub64.run t672 t674 0 t675 t676 _ A47.out) ?_) | ((with_reducible refine gate_callee (f := 33) rfl ?_); refine goesE_ (some 108) rfl rfl #[.int .u64 t671, .int .u64 t673, .int .u64 t676] rfl (by (try simp only [List.map_toArray, List.map_cons, List.map_nil]); first | done | rfl | (simp only [List.length_drop, List.length_take]; rfl)) (bits_Sub64.run t671 t673 t676 t677 t678 _ A48.out) ?_))
          (try simp only [Act.put, sIA, sC0, sCS])
          go_cut [116] (fun v116 wc => ∃ (kq : Nat) (x116_48 : Bool), v116 = .bool x116_48 ∧ Aside0 (spilelaw46_TariffNear.j3 kq t660 t675 t677 x116_48 a0_0 l0_1 = some r) ∧ Aside0 (kq ≤ kj38) ∧ Aside0 (wc.heap[gb652]? = some (.cells #[.int .i64 a0_0, (.slice A0_1 l0_1.length c0_1)] 24 (0, 0))) ∧ Aside0 (wc.heap[gb670]? = some (.cells #[.int .i64 t666, .int .i64 t667, .int .i64 t668] 26 (0, 0))) ∧ Aside0 (Below w.heap.size w wc))
          case first =>
           have H := HC49.out; clear HC49; by_cases c52 : t677 = 0
           ·
            rw [if_pos c52] at H; have c52b0 : (t677 == 0) = true := beq_iff_eq.mpr c52; have c52b1 : (t677 != 0) = false := bne_eq_false_iff_eq.mpr c52; clear c52; (first | rw [c52b0] | (simp only [i64_w, i32_w]; rw [c52b0]) | skip)
            have H' := Aside0.mk H; clear H; go_wp2; go_meet
            case rel => exact ⟨_, (false), (by first | rfl | (simp; done) | (simp [*]; done)), H', ⟨by have := HJ4.out; have := HJ20.out; have := HJ38.out; first | omega | exact Nat.le_refl _⟩, ⟨by (with_reducible repeat first | apply bN | apply bD | apply bA); exact BK652.out⟩, ⟨by (with_reducible repeat first | apply bN | apply bD | apply bA); exact BK670.out⟩, ⟨eG HB.out⟩⟩
           ·
            rw [if_neg c52] at H; have c52b0 : (t677 == 0) = false := beq_eq_false_iff_ne.mpr c52; have c52b1 : (t677 != 0) = true := bne_iff_ne.mpr c52; (first | rw [c52b0] | (simp only [i64_w, i32_w]; rw [c52b0]) | skip)
            have H' := Aside0.mk H; clear H; go_wp2; go_meet
            case rel => exact ⟨_, ((t677 != 18446744073709551615)), (by first | rfl | (simp; done) | (simp [*]; done)), H', ⟨by have := HJ4.out; have := HJ20.out; have := HJ38.out; first | omega | exact Nat.le_refl _⟩, ⟨by (with_reducible repeat first | apply bN | apply bD | apply bA); exact BK652.out⟩, ⟨by (with_reducible repeat first | apply bN | apply bD | apply bA); exact BK670.out⟩, ⟨eG HB.out⟩⟩
          case rest =>
           clear HC49; repeat first | clear c1 | clear c2 | clear p2 | clear c3 | clear c4 | clear c5 | clear c8 | clear c10 | clear c11 | clear c14 | clear c19 | clear c26 | clear c31 | clear c32 | clear c33 | clear c33b0 | clear c33b1 | clear c34 | clear c35 | clear c35b0 | clear c35b1 | clear c36 | clear c36b0 | clear c36b1 | clear c37 | clear c37b0 | clear c37b1 | clear c38 | clear c38b0 | clear c40 | clear c40b0 | clear c41 | clear c41b0 | clear c42 | clear c44 | clear c50 | clear c52 | clear c52b0 | clear c52b1 | clear hcz11_0 | clear hcz11_1 | clear hcz22_0 | clear hcz22_1 | clear hcz26_0 | clear hcz26_1 | clear hcz32_0 | clear hcz32_1 | clear hcz32_2 | clear hcz43_0 | clear hcz43_1 | clear hcz43_2 | clear hcz51_0 | clear hcz51_1 | clear hcz51_2 | clear hfz11_0 | clear hfz11_1 | clear hfz22_0 | clear hfz22_1 | clear hfz26_0 | clear hfz26_1 | clear hfz32_0 | clear hfz32_1 | clear hfz32_2 | clear hfz43_0 | clear hfz43_1 | clear hfz43_2 | clear hfz51_0 | clear hfz51_1 | clear hfz51_2 | clear p2
           obtain ⟨kq, x116_48, rfl, HA, HJ48, BK652, BK670, HB⟩ := hcut
           cases kq with
           | zero => exact absurd HA.out (by simp [spilelaw46_TariffNear.j3])
           | succ kj48 =>
            have H := HA.out; clear HA; simp only [spilelaw46_TariffNear.j3] at H; by_cases c53 : x116_48 = true
            ·
             subst c53; replace H : (some false) = some r := by rw [if_pos rfl] at H; exact H
             subst hr_; exact absurd H (by simp)
            ·
             replace c53 := Bool.eq_false_iff.mpr c53; subst c53; replace H : (if t677 = 0 then (if t675 > 10000000 then (spilelaw46_TariffNear.j4 kj48 t660 (wrap64 (2 * (wrap64 (t675)))) true a0_0 l0_1) else (spilelaw46_TariffNear.j4 kj48 t660 (wrap64 (2 * (wrap64 (t675)))) false a0_0 l0_1)) else (spilelaw46_TariffNear.j4 kj48 t660 (wrap64 (2 * (wrap64 (t675)))) (decide (t675 < 18446744073699551616)) a0_0 l0_1)) = some r := by rw [if_neg (show ¬ (false = true) by decide)] at H; exact H
             have HC54 := Aside0.mk H; clear H; go_upto_region 16 with (fail)
             go_cut [133] (fun v133 wc => ∃ (kq : Nat) (x133_53 : Bool), v133 = .bool x133_53 ∧ Aside0 (spilelaw46_TariffNear.j4 kq t660 (wrap64 (2 * (wrap64 (t675)))) x133_53 a0_0 l0_1 = some r) ∧ Aside0 (kq ≤ kj48) ∧ Aside0 (wc.heap[gb652]? = some (.cells #[.int .i64 a0_0, (.slice A0_1 l0_1.length c0_1)] 24 (0, 0))) ∧ Aside0 (wc.heap[gb670]? = some (.cells #[.int .i64 t666, .int .i64 t667, .int .i64 t668] 26 (0, 0))) ∧ Aside0 (Below w.heap.size w wc))
             case first =>
              have H := HC54.out; clear HC54; by_cases c55 : t677 = 0
              ·
               rw [if_pos c55] at H; have c55b0 : (t677 == 0) = true := beq_iff_eq.mpr c55; have c55b1 : (t677 != 0) = false := bne_eq_false_iff_eq.mpr c55; clear c55; (first | rw [c55b0] | (simp only [i64_w, i32_w]; rw [c55b0]) | skip)
               by_cases c56 : t675 > 10000000
               ·
                rw [if_pos c56] at H; have c56b0 : decide (10000000 < t675) = true := decide_eq_true c56; clear c56; have H' := Aside0.mk H; clear H; go_wp2; go_meet
                case rel => exact ⟨_, (true), (by first | rfl | (simp; done) | (simp [*]; done)), H', ⟨by have := HJ4.out; have := HJ20.out; have := HJ38.out; have := HJ48.out; first | omega | exact Nat.le_refl _⟩, ⟨by (with_reducible repeat first | apply bN | apply bD | apply bA); exact BK652.out⟩, ⟨by (with_reducible repeat first | apply bN | apply bD | apply bA); exact BK670.out⟩, ⟨eG HB.out⟩⟩
               ·
                rw [if_neg c56] at H; have c56b0 : decide (10000000 < t675) = false := decide_eq_false c56; clear c56; have H' := Aside0.mk H; clear H; go_wp2; go_meet
                case rel => exact ⟨_, (false), (by first | rfl | (simp; done) | (simp [*]; done)), H', ⟨by have := HJ4.out; have := HJ20.out; have := HJ38.out; have := HJ48.out; first | omega | exact Nat.le_refl _⟩, ⟨by (with_reducible repeat first | apply bN | apply bD | apply bA); exact BK652.out⟩, ⟨by (with_reducible repeat first | apply bN | apply bD | apply bA); exact BK670.out⟩, ⟨eG HB.out⟩⟩
              ·
               rw [if_neg c55] at H; have c55b0 : (t677 == 0) = false := beq_eq_false_iff_ne.mpr c55; have c55b1 : (t677 != 0) = true := bne_iff_ne.mpr c55; (first | rw [c55b0] | (simp only [i64_w, i32_w]; rw [c55b0]) | skip)
               have H' := Aside0.mk H; clear H; go_wp2; go_meet
               case rel => exact ⟨_, (decide (t675 < 18446744073699551616)), (by first | rfl | (simp; done) | (simp [*]; done)), H', ⟨by have := HJ4.out; have := HJ20.out; have := HJ38.out; have := HJ48.out; first | omega | exact Nat.le_refl _⟩, ⟨by (with_reducible repeat first | apply bN | apply bD | apply bA); exact BK652.out⟩, ⟨by (with_reducible repeat first | apply bN | apply bD | apply bA); exact BK670.out⟩, ⟨eG HB.out⟩⟩
             case rest =>
              clear HC54; repeat first | clear c1 | clear c2 | clear p2 | clear c3 | clear c4 | clear c5 | clear p6 | clear c8 | clear c10 | clear c11 | clear c14 | clear c19 | clear c26 | clear c31 | clear c32 | clear c33 | clear c33b0 | clear c33b1 | clear c34 | clear c35 | clear c35b0 | clear c35b1 | clear c36 | clear c36b0 | clear c36b1 | clear c37 | clear c37b0 | clear c37b1 | clear c38 | clear c38b0 | clear c40 | clear c40b0 | clear c41 | clear c41b0 | clear c42 | clear c44 | clear c50 | clear c52 | clear c52b0 | clear c52b1 | clear c53 | clear c55 | clear c55b0 | clear c55b1 | clear c56 | clear c56b0 | clear hcz11_0 | clear hcz11_1 | clear hcz22_0 | clear hcz22_1 | clear hcz26_0 | clear hcz26_1 | clear hcz32_0 | clear hcz32_1 | clear hcz32_2 | clear hcz43_0 | clear hcz43_1 | clear hcz43_2 | clear hcz51_0 | clear hcz51_1 | clear hcz51_2 | clear hfz11_0 | clear hfz11_1 | clear hfz22_0 | clear hfz22_1 | clear hfz26_0 | clear hfz26_1 | clear hfz32_0 | clear hfz32_1 | clear hfz32_2 | clear hfz43_0 | clear hfz43_1 | clear hfz43_2 | clear hfz51_0 | clear hfz51_1 | clear hfz51_2 | clear p2
              obtain ⟨kq, x133_53, rfl, HA, HJ53, BK652, BK670, HB⟩ := hcut
              cases kq with
              | zero => exact absurd HA.out (by simp [spilelaw46_TariffNear.j4])
              | succ kj53 =>
               have H := HA.out; clear HA; simp only [spilelaw46_TariffNear.j4] at H; by_cases c57 : x133_53 = true
               ·
                subst c57; replace H : (some false) = some r := by rw [if_pos rfl] at H; exact H
                subst hr_; exact absurd H (by simp)
               ·
                replace c57 := Bool.eq_false_iff.mpr c57; subst c57; replace H : (if a0_0 = 1 then (if (wrap64 (2 * (wrap64 (t675)))) ≥ 0 then (some (decide ((wrap64 (2 * (wrap64 (t675)))) < 20000000))) else (some false)) else (if a0_0 = 2 then (if (wrap64 (2 * (wrap64 (t675)))) ≤ 0 then (some (decide ((wrap64 (2 * (wrap64 (t675)))) > (-20000000)))) else (some false)) else (if a0_0 = 3 then (if (wrap64 (2 * (wrap64 (t675)))) < 10000000 then (some (decide ((wrap64 (2 * (wrap64 (t675)))) ≥ (-10000000)))) else (some false)) else (if (wrap64 (2 * (wrap64 (t675)))) ≤ 10000000 then (if (wrap64 (2 * (wrap64 (t675)))) ≥ (-10000000) then (if (wrap64 (2 * (wrap64 (t675)))) = 10000000 then (some ((Int.tmod t660 2) == 0)) else (if (wrap64 (2 * (wrap64 (t675)))) = (-10000000) then (some ((Int.tmod t660 2) == 0)) else (some true))) else (some false)) else (some false))))) = some r := by rw [if_neg (show ¬ (false = true) by decide)] at H; exact H
                by_cases c58 : a0_0 = 1
                ·
                 rw [if_pos c58] at H; have c58b0 : (a0_0 == 1) = true := beq_iff_eq.mpr c58; have c58b1 : (a0_0 != 1) = false := bne_eq_false_iff_eq.mpr c58; clear c58; by_cases c59 : (wrap64 (2 * (wrap64 (t675)))) ≥ 0
                 ·
                  rw [if_pos c59] at H; have c59b0 : decide (0 ≤ (wrap64 (2 * (wrap64 (t675))))) = true := decide_eq_true c59; clear c59; obtain rfl := Option.some.inj H; have hnb60 := NB652_670.out; have hnc60 := NB670_652.out; have hcz61_0 : wc.cell? ⟨gb652, 0, none⟩ = some (.int .i64 a0_0) := (blk_cell BK652.out 0).trans rfl; have hcz61_1 : wc.cell? ⟨gb652, 1, none⟩ = some (.slice A0_1 l0_1.length c0_1) := (blk_cell BK652.out 1).trans rfl; have hfz61_0 := blk_frozen BK652.out 0; have hfz61_1 := blk_frozen BK652.out 1; go_wp2; go_ret
                  exact ⟨by first | rfl | (simp [errW_none, errW_some] <;> rfl) | (simp [*, errW_none, errW_some] <;> rfl), eG HB.out⟩
                 · rw [if_neg c59] at H; have c59b0 : decide (0 ≤ (wrap64 (2 * (wrap64 (t675))))) = false := decide_eq_false c59; clear c59; subst hr_; exact absurd H (by simp)
                ·
                 rw [if_neg c58] at H; have c58b0 : (a0_0 == 1) = false := beq_eq_false_iff_ne.mpr c58; have c58b1 : (a0_0 != 1) = true := bne_iff_ne.mpr c58; by_cases c62 : a0_0 = 2
                 ·
                  rw [if_pos c62] at H; have c62b0 : (a0_0 == 2) = true := beq_iff_eq.mpr c62; have c62b1 : (a0_0 != 2) = false := bne_eq_false_iff_eq.mpr c62; clear c62; by_cases c63 : (wrap64 (2 * (wrap64 (t675)))) ≤ 0
                  ·
                   rw [if_pos c63] at H; have c63b0 : decide ((wrap64 (2 * (wrap64 (t675)))) ≤ 0) = true := decide_eq_true c63; clear c63; obtain rfl := Option.some.inj H; have hnb64 := NB652_670.out; have hnc64 := NB670_652.out; have hcz65_0 : wc.cell? ⟨gb652, 0, none⟩ = some (.int .i64 a0_0) := (blk_cell BK652.out 0).trans rfl; have hcz65_1 : wc.cell? ⟨gb652, 1, none⟩ = some (.slice A0_1 l0_1.length c0_1) := (blk_cell BK652.out 1).trans rfl; have hfz65_0 := blk_frozen BK652.out 0; have hfz65_1 := blk_frozen BK652.out 1; go_wp2; go_ret
                   exact ⟨by first | rfl | (simp [errW_none, errW_some] <;> rfl) | (simp [*, errW_none, errW_some] <;> rfl), eG HB.out⟩
                  · rw [if_neg c63] at H; have c63b0 : decide ((wrap64 (2 * (wrap64 (t675)))) ≤ 0) = false := decide_eq_false c63; clear c63; subst hr_; exact absurd H (by simp)
                 ·
                  rw [if_neg c62] at H; have c62b0 : (a0_0 == 2) = false := beq_eq_false_iff_ne.mpr c62; have c62b1 : (a0_0 != 2) = true := bne_iff_ne.mpr c62; by_cases c66 : a0_0 = 3
                  ·
                   rw [if_pos c66] at H; have c66b0 : (a0_0 == 3) = true := beq_iff_eq.mpr c66; have c66b1 : (a0_0 != 3) = false := bne_eq_false_iff_eq.mpr c66; clear c66; by_cases c67 : (wrap64 (2 * (wrap64 (t675)))) < 10000000
                   ·
                    rw [if_pos c67] at H; have c67b0 : decide ((wrap64 (2 * (wrap64 (t675)))) < 10000000) = true := decide_eq_true c67; clear c67; obtain rfl := Option.some.inj H; have hnb68 := NB652_670.out; have hnc68 := NB670_652.out; have hcz69_0 : wc.cell? ⟨gb652, 0, none⟩ = some (.int .i64 a0_0) := (blk_cell BK652.out 0).trans rfl; have hcz69_1 : wc.cell? ⟨gb652, 1, none⟩ = some (.slice A0_1 l0_1.length c0_1) := (blk_cell BK652.out 1).trans rfl; have hfz69_0 := blk_frozen BK652.out 0; have hfz69_1 := blk_frozen BK652.out 1; go_wp2; go_ret
                    exact ⟨by first | rfl | (simp [errW_none, errW_some] <;> rfl) | (simp [*, errW_none, errW_some] <;> rfl), eG HB.out⟩
                   · rw [if_neg c67] at H; have c67b0 : decide ((wrap64 (2 * (wrap64 (t675)))) < 10000000) = false := decide_eq_false c67; clear c67; subst hr_; exact absurd H (by simp)
                  ·
                   rw [if_neg c66] at H; have c66b0 : (a0_0 == 3) = false := beq_eq_false_iff_ne.mpr c66; have c66b1 : (a0_0 != 3) = true := bne_iff_ne.mpr c66; by_cases c70 : (wrap64 (2 * (wrap64 (t675)))) ≤ 10000000
                   ·
                    rw [if_pos c70] at H; have c70b0 : decide ((wrap64 (2 * (wrap64 (t675)))) ≤ 10000000) = true := decide_eq_true c70; clear c70; by_cases c71 : (wrap64 (2 * (wrap64 (t675)))) ≥ (-10000000)
                    ·
                     rw [if_pos c71] at H; have c71b0 : decide ((-10000000) ≤ (wrap64 (2 * (wrap64 (t675))))) = true := decide_eq_true c71; clear c71; by_cases c72 : (wrap64 (2 * (wrap64 (t675)))) = 10000000
                     ·
                      rw [if_pos c72] at H; have c72b0 : ((wrap64 (2 * (wrap64 (t675)))) == 10000000) = true := beq_iff_eq.mpr c72; have c72b1 : ((wrap64 (2 * (wrap64 (t675)))) != 10000000) = false := bne_eq_false_iff_eq.mpr c72; clear c72; obtain rfl := Option.some.inj H; have hnb73 := NB652_670.out; have hnc73 := NB670_652.out; have hcz74_0 : wc.cell? ⟨gb652, 0, none⟩ = some (.int .i64 a0_0) := (blk_cell BK652.out 0).trans rfl; have hcz74_1 : wc.cell? ⟨gb652, 1, none⟩ = some (.slice A0_1 l0_1.length c0_1) := (blk_cell BK652.out 1).trans rfl; have hfz74_0 := blk_frozen BK652.out 0; have hfz74_1 := blk_frozen BK652.out 1; go_wp2; go_ret
                      exact ⟨by first | rfl | (simp [errW_none, errW_some] <;> rfl) | (simp [*, errW_none, errW_some] <;> rfl), eG HB.out⟩
                     ·
                      rw [if_neg c72] at H; have c72b0 : ((wrap64 (2 * (wrap64 (t675)))) == 10000000) = false := beq_eq_false_iff_ne.mpr c72; have c72b1 : ((wrap64 (2 * (wrap64 (t675)))) != 10000000) = true := bne_iff_ne.mpr c72; by_cases c75 : (wrap64 (2 * (wrap64 (t675)))) = (-10000000)
                      ·
                       rw [if_pos c75] at H; have c75b0 : ((wrap64 (2 * (wrap64 (t675)))) == (-10000000)) = true := beq_iff_eq.mpr c75; have c75b1 : ((wrap64 (2 * (wrap64 (t675)))) != (-10000000)) = false := bne_eq_false_iff_eq.mpr c75; clear c75; obtain rfl := Option.some.inj H; have hnb76 := NB652_670.out; have hnc76 := NB670_652.out; have hcz77_0 : wc.cell? ⟨gb652, 0, none⟩ = some (.int .i64 a0_0) := (blk_cell BK652.out 0).trans rfl; have hcz77_1 : wc.cell? ⟨gb652, 1, none⟩ = some (.slice A0_1 l0_1.length c0_1) := (blk_cell BK652.out 1).trans rfl; have hfz77_0 := blk_frozen BK652.out 0; have hfz77_1 := blk_frozen BK652.out 1; go_wp2; go_ret
                       exact ⟨by first | rfl | (simp [errW_none, errW_some] <;> rfl) | (simp [*, errW_none, errW_some] <;> rfl), eG HB.out⟩
                      ·
                       rw [if_neg c75] at H; have c75b0 : ((wrap64 (2 * (wrap64 (t675)))) == (-10000000)) = false := beq_eq_false_iff_ne.mpr c75; have c75b1 : ((wrap64 (2 * (wrap64 (t675)))) != (-10000000)) = true := bne_iff_ne.mpr c75; obtain rfl := Option.some.inj H; have hnb78 := NB652_670.out; have hnc78 := NB670_652.out; have hcz79_0 : wc.cell? ⟨gb652, 0, none⟩ = some (.int .i64 a0_0) := (blk_cell BK652.out 0).trans rfl; have hcz79_1 : wc.cell? ⟨gb652, 1, none⟩ = some (.slice A0_1 l0_1.length c0_1) := (blk_cell BK652.out 1).trans rfl; have hfz79_0 := blk_frozen BK652.out 0; have hfz79_1 := blk_frozen BK652.out 1; go_wp2; go_ret
                       exact ⟨by first | rfl | (simp [errW_none, errW_some] <;> rfl) | (simp [*, errW_none, errW_some] <;> rfl), eG HB.out⟩
                    · rw [if_neg c71] at H; have c71b0 : decide ((-10000000) ≤ (wrap64 (2 * (wrap64 (t675))))) = false := decide_eq_false c71; clear c71; subst hr_; exact absurd H (by simp)
                   · rw [if_neg c70] at H; have c70b0 : decide ((wrap64 (2 * (wrap64 (t675)))) ≤ 10000000) = false := decide_eq_false c70; clear c70; subst hr_; exact absurd H (by simp)
end Go.Proofs.YtholbmidciapdaaGreatDoor.Pr
namespace Go.Proofs.YtholbmidciapdaaGreatDoor.Pr
open Go.RowKit Go.Proofs.YtholbmidciapdaaGreatDoorW.PrintWords Go.Proofs.YtholbmidciapdaaGreatDoorW.PrintLast Go.Proofs.YtholbmidciapdaaGreatDoorW.PrintMore Go.Proofs.YtholbmidciapdaaGreatDoor.X
attribute [local go_sem] max2_int min2_int max_two min_two max_three min_three max_four min_four   -- for this text's walks alone
set_option linter.unusedVariables false
set_option linter.unusedSimpArgs false
mutual
def spileref46_Check.j0 : Nat → Bool → Int → List (S26) → Option (Int × Int)
 | 0, _, _, _ => none
 | k + 1, x12, x262000, x262001 => if x12 = true then (some ((-1), 2)) else (if (x262001.length : Int) > 64 then (some ((-1), 8)) else (spileref46_Check.l0 k 0 x262000 x262001))
def spileref46_Check.l0 : Nat → Int → Int → List (S26) → Option (Int × Int)
 | 0, _, _, _ => none
 | k + 1, x4, x262000, x262001 => if x4 < (x262001.length : Int) then (if 0 ≤ x4 then ((spileref46_right.f ((rd_T26 x262001 x4).f0) ((rd_T26 x262001 x4).f1) ((rd_T26 x262001 x4).f2)).bind fun t263 => (if t263 = true then (if x4 > 0 then (if 0 ≤ (wrap64 (x4 - 1)) then (if (wrap64 (x4 - 1)) < (x262001.length : Int) then ((spileref46_before.f ((rd_T26 x262001 (wrap64 (x4 - 1))).f0) ((rd_T26 x262001 (wrap64 (x4 - 1))).f1) ((rd_T26 x262001 (wrap64 (x4 - 1))).f2) ((rd_T26 x262001 x4).f0) ((rd_T26 x262001 x4).f1) ((rd_T26 x262001 x4).f2)).bind fun t266 => (if t266 = true then (spileref46_Check.l0 k (wrap64 (x4 + 1)) x262000 x262001) else (some (x4, 5)))) else (none)) else (none)) else (spileref46_Check.l0 k (wrap64 (x4 + 1)) x262000 x262001)) else (some (x4, 2)))) else (none)) else (some ((-1), 0))
end
def spileref46_Check.f (k : Nat) (a0_0 : Int) (l0_1 : List (S26)) : Option (Int × Int) := if a0_0 < 1 then (spileref46_Check.j0 k true a0_0 l0_1) else (spileref46_Check.j0 k (decide (a0_0 > 4)) a0_0 l0_1)
end Go.Proofs.YtholbmidciapdaaGreatDoor.Pr
namespace Go.Proofs.YtholbmidciapdaaGreatDoor.Pr
open Go.RowKit Go.Proofs.YtholbmidciapdaaGreatDoorW.PrintWords Go.Proofs.YtholbmidciapdaaGreatDoorW.PrintLast Go.Proofs.YtholbmidciapdaaGreatDoorW.PrintMore Go.Proofs.YtholbmidciapdaaGreatDoor.X
attribute [local go_sem] max2_int min2_int max_two min_two max_three min_three max_four min_four   -- for this text's walks alone
set_option linter.unusedVariables false
set_option linter.unusedSimpArgs false
def spileref46_Force.l0 : Nat → Int → Int → Bool → Int → Int → List (S26) → Int → Int → Int → Option (Int × Int × Int × Bool)
 | 0, _, _, _, _, _, _, _, _, _ => none
 | k + 1, x1, x2, x9, x10, x335000, x335001, x337000, x337001, x337002 => if x10 < (x335001.length : Int) then (if 0 ≤ x10 then (if ((rd_T26 x335001 x10).f0) = x1 then (if ((rd_T26 x335001 x10).f1) ≤ x2 then (spileref46_Force.l0 k x1 x2 true (wrap64 (x10 + 1)) x335000 x335001 ((rd_T26 x335001 x10).f0) ((rd_T26 x335001 x10).f1) ((rd_T26 x335001 x10).f2)) else (spileref46_Force.l0 k x1 x2 x9 (wrap64 (x10 + 1)) x335000 x335001 x337000 x337001 x337002)) else (spileref46_Force.l0 k x1 x2 x9 (wrap64 (x10 + 1)) x335000 x335001 x337000 x337001 x337002)) else (none)) else (some (x337000, x337001, x337002, x9))
end Go.Proofs.YtholbmidciapdaaGreatDoor.Pr
namespace Go.Proofs.YtholbmidciapdaaGreatDoor.Opn
open Go Go.RowKit Go.Proofs.YtholbmidciapdaaGreatDoorW.PrintWords Go.Proofs.YtholbmidciapdaaGreatDoor.O Go.Proofs.YtholbmidciapdaaGreatDoor.Pr
theorem opens3 : Opens Tryz.prog 3 (Kd.int .i64) (fun x => (Lit.int .i64 x).wf = true) := opens_int Tryz.underlying3 (by kernel_rfl)
def ok26 (x : S26) : Prop := (Lit.int .i64 x.f0).wf = true ∧ (Lit.int .i64 x.f1).wf = true ∧ (Lit.int .i64 x.f2).wf = true
theorem opens26 : Opens Tryz.prog 26 k26 ok26 :=
  ⟨by kernel_rfl, fun H enc w base sp held fuel cs x h => by
    obtain ⟨xs, n, _, _, hl, hx, hf⟩ := DataW.trod_struct Tryz.underlying26 h
    have hc_ : Tryz.prog.cellsOf 26 = 3 := by kernel_rfl
    rw [hc_] at hl
    obtain ⟨c0, c1, c2, rfl⟩ : ∃ c0 c1 c2, cs = [c0, c1, c2] := by
      clear h hf hx
      rcases cs with _ | ⟨c0, _ | ⟨c1, _ | ⟨c2, _ | ⟨_, _⟩⟩⟩⟩
      all_goals first | exact ⟨_, _, _, rfl⟩ | (simp at hl)
    obtain ⟨y0, hy0⟩ : ∃ y, xs[0]? = some y := ⟨xs[0]'(by rw [hx]; decide), List.getElem?_eq_getElem _⟩
    have e0 : DataW.trod enc Tryz.prog w base sp held n 3 ((List.drop 0 [c0, c1, c2]).take (Tryz.prog.cellsOf 3)) = xs[0]? := hf 0 _ rfl
    rw [hy0, show Tryz.prog.cellsOf 3 = 1 from by kernel_rfl] at e0
    obtain ⟨v0, K0, o0⟩ := opens3.2 H enc w base sp held n _ _ e0
    replace K0 : (Kd.int .i64).K w v0 [c0] := K0
    obtain ⟨y1, hy1⟩ : ∃ y, xs[1]? = some y := ⟨xs[1]'(by rw [hx]; decide), List.getElem?_eq_getElem _⟩
    have e1 : DataW.trod enc Tryz.prog w base sp held n 3 ((List.drop 1 [c0, c1, c2]).take (Tryz.prog.cellsOf 3)) = xs[1]? := hf 1 _ rfl
    rw [hy1, show Tryz.prog.cellsOf 3 = 1 from by kernel_rfl] at e1
    obtain ⟨v1, K1, o1⟩ := opens3.2 H enc w base sp held n _ _ e1
    replace K1 : (Kd.int .i64).K w v1 [c1] := K1
    obtain ⟨y2, hy2⟩ : ∃ y, xs[2]? = some y := ⟨xs[2]'(by rw [hx]; decide), List.getElem?_eq_getElem _⟩
    have e2 : DataW.trod enc Tryz.prog w base sp held n 3 ((List.drop 2 [c0, c1, c2]).take (Tryz.prog.cellsOf 3)) = xs[2]? := hf 2 _ rfl
    rw [hy2, show Tryz.prog.cellsOf 3 = 1 from by kernel_rfl] at e2
    obtain ⟨v2, K2, o2⟩ := opens3.2 H enc w base sp held n _ _ e2
    replace K2 : (Kd.int .i64).K w v2 [c2] := K2
    obtain rfl : c0 = _ := List.singleton_inj.1 K0
    obtain rfl : c1 = _ := List.singleton_inj.1 K1
    obtain rfl : c2 = _ := List.singleton_inj.1 K2
    refine ⟨⟨v0, v1, v2⟩, ?_, o0, o1, o2⟩
    exact k26_mk w ⟨v0, v1, v2⟩ ⟩
theorem opens22 : Opens Tryz.prog 22 (Kd.slice 26 k26) (fun x => (x.length ≤ maxLen ∧ ∀ x0_, x0_ ∈ x → ok26 x0_)) := opens_slice (P := Tryz.prog) (t := 22) (e := 26) Tryz.underlying22 (by kernel_rfl) opens26
def ok24 (x : S24) : Prop := (Lit.int .i64 x.f0).wf = true ∧ (x.f1.length ≤ maxLen ∧ ∀ x0_, x0_ ∈ x.f1 → ok26 x0_)
theorem opens24 : Opens Tryz.prog 24 k24 ok24 :=
  ⟨by kernel_rfl, fun H enc w base sp held fuel cs x h => by
    obtain ⟨xs, n, _, _, hl, hx, hf⟩ := DataW.trod_struct Tryz.underlying24 h
    have hc_ : Tryz.prog.cellsOf 24 = 2 := by kernel_rfl
    rw [hc_] at hl
    obtain ⟨c0, c1, rfl⟩ : ∃ c0 c1, cs = [c0, c1] := by
      clear h hf hx
      rcases cs with _ | ⟨c0, _ | ⟨c1, _ | ⟨_, _⟩⟩⟩
      all_goals first | exact ⟨_, _, rfl⟩ | (simp at hl)
    obtain ⟨y0, hy0⟩ : ∃ y, xs[0]? = some y := ⟨xs[0]'(by rw [hx]; decide), List.getElem?_eq_getElem _⟩
    have e0 : DataW.trod enc Tryz.prog w base sp held n 3 ((List.drop 0 [c0, c1]).take (Tryz.prog.cellsOf 3)) = xs[0]? := hf 0 _ rfl
    rw [hy0, show Tryz.prog.cellsOf 3 = 1 from by kernel_rfl] at e0
    obtain ⟨v0, K0, o0⟩ := opens3.2 H enc w base sp held n _ _ e0
    replace K0 : (Kd.int .i64).K w v0 [c0] := K0
    obtain ⟨y1, hy1⟩ : ∃ y, xs[1]? = some y := ⟨xs[1]'(by rw [hx]; decide), List.getElem?_eq_getElem _⟩
    have e1 : DataW.trod enc Tryz.prog w base sp held n 22 ((List.drop 1 [c0, c1]).take (Tryz.prog.cellsOf 22)) = xs[1]? := hf 1 _ rfl
    rw [hy1, show Tryz.prog.cellsOf 22 = 1 from by kernel_rfl] at e1
    obtain ⟨v1, K1, o1⟩ := opens22.2 H enc w base sp held n _ _ e1
    replace K1 : (Kd.slice 26 k26).K w v1 [c1] := K1
    obtain rfl : c0 = _ := List.singleton_inj.1 K0
    obtain ⟨A1, q1, w1, m1, g1⟩ := K1
    obtain rfl : c1 = _ := List.singleton_inj.1 w1
    refine ⟨⟨v0, v1⟩, ?_, o0, o1⟩
    exact k24_mk w ⟨v0, v1⟩ m1 g1⟩
end Go.Proofs.YtholbmidciapdaaGreatDoor.Opn
namespace Go.Proofs.YtholbmidciapdaaGreatDoor.Pure
open Go Go.RowKit Go.Proofs.YtholbmidciapdaaGreatDoor.Pr Go.Proofs.YtholbmidciapdaaGreatDoor.Opn
def tariffNearPure : Prop := ∀ (a0_0 : Int) (l0_1 : (List S26)) (a1 : Int) (a2 : Int) (a3 : Int), (Lit.int .i64 a0_0).wf = true → (l0_1.length ≤ maxLen ∧ ∀ x0_, x0_ ∈ l0_1 → ok26 x0_) → (Lit.int .i64 a1).wf = true → (Lit.int .i64 a2).wf = true → (Lit.int .i64 a3).wf = true → ∃ k, spilelaw46_TariffNear.f k a0_0 l0_1 a1 a2 a3 = some true
end Go.Proofs.YtholbmidciapdaaGreatDoor.Pure
namespace Go.Proofs.YtholbmidciapdaaGreatDoor.PL
open Go Go.RowKit Go.Proofs.YtholbmidciapdaaGreatDoorW.PrintWords Go.Proofs.YtholbmidciapdaaGreatDoorW.PrintLast Go.Proofs.YtholbmidciapdaaGreatDoorW.PrintMore
theorem evp {α : Type} {c : Prop} [Decidable c] {g h : Nat → Option α} {r : α} (hc : c) (k : Ev g r) : Ev (fun n => if c then g n else h n) r :=
  Ev.congr (fun n => if_pos hc) k
theorem evn {α : Type} {c : Prop} [Decidable c] {g h : Nat → Option α} {r : α} (hc : ¬ c) (k : Ev h r) : Ev (fun n => if c then g n else h n) r :=
  Ev.congr (fun n => if_neg hc) k
theorem evb {α β : Type} {g : Nat → Option α} {f : Nat → α → Option β} {a : α} {r : β} (h : Ev g a) (k : Ev (fun n => f n a) r) : Ev (fun n => (g n).bind (f n)) r := Ev.bind h k
theorem evr {α : Type} {a r : α} (h : a = r) : Ev (fun _ => some a) r := by subst h; exact Ev.now _
theorem evc {α : Type} {g : Nat → Option α} {r : α} {o : Option α} (hg : ∀ n, g n = o) (h : o = some r) : Ev g r := by
  subst h
  exact Ev.congr hg (Ev.now _)
/-- A loop that counts upwards to n. -/
theorem count_up (a n : Int) (P : Int → Prop) (hend : P n) (hround : ∀ i, a ≤ i → i < n → P (i + 1) → P i) : ∀ i, a ≤ i → i ≤ n → P i := by
  intro i h0 h1
  obtain ⟨d, hd⟩ : ∃ d : Nat, n - i = d := ⟨(n - i).toNat, by omega⟩
  induction d generalizing i with
  | zero =>
    obtain rfl : i = n := by omega
    exact hend
  | succ d ih => exact hround i h0 (by omega) (ih (i + 1) (by omega) (by omega) (by omega))
theorem w64 {x : Int} (h0 : -9223372036854775808 ≤ x) (h1 : x ≤ 9223372036854775807) : wrap64 x = x := by
  unfold wrap64
  omega
theorem w64_succ {i n : Int} (h0 : 0 ≤ i) (h : i < n) (hn : n ≤ 9223372036854775807) : wrap64 (i + 1) = i + 1 := w64 (by omega) (by omega)
theorem w64_pred {i n : Int} (h0 : 0 ≤ i) (h : i ≤ n) (hn : n ≤ 9223372036854775807) : wrap64 (i - 1) = i - 1 := w64 (by omega) (by omega)
/-- A test that comes to true where P holds, and else to false. -/
def EvB (g : Nat → Option Bool) (P : Prop) : Prop := (P → Ev g true) ∧ (¬ P → Ev g false)
theorem EvB.map {g : Nat → Option Bool} {f : Nat → Bool → Option Bool} {P Q : Prop} (h : EvB g P) (ht : P → EvB (fun n => f n true) Q) (hf : ¬ P → EvB (fun n => f n false) Q) : EvB (fun n => (g n).bind (f n)) Q := by
  by_cases hp : P
  · exact ⟨fun q => Ev.bind (h.1 hp) ((ht hp).1 q), fun q => Ev.bind (h.1 hp) ((ht hp).2 q)⟩
  · exact ⟨fun q => Ev.bind (h.2 hp) ((hf hp).1 q), fun q => Ev.bind (h.2 hp) ((hf hp).2 q)⟩
theorem mulb {x y X Y : Int} (h0 : 0 ≤ x) (h1 : x ≤ X) (k0 : 0 ≤ y) (k1 : y ≤ Y) : 0 ≤ x * y ∧ x * y ≤ X * Y :=
  ⟨Int.mul_nonneg h0 k0, Int.mul_le_mul h1 k1 k0 (Int.le_trans h0 h1)⟩
end Go.Proofs.YtholbmidciapdaaGreatDoor.PL
namespace Go.Proofs.YtholbmidciapdaaGreatDoor.PL
open Go Go.RowKit Go.Proofs.YtholbmidciapdaaGreatDoorW.PrintWords Go.Proofs.YtholbmidciapdaaGreatDoorW.PrintLast Go.Proofs.YtholbmidciapdaaGreatDoorW.PrintMore Go.Proofs.YtholbmidciapdaaGreatDoor.Pr
def Lt26 (a b : S26) : Prop := a.f0 < b.f0 ∨ (a.f0 = b.f0 ∧ a.f1 < b.f1)
instance (a b : S26) : Decidable (Lt26 a b) := by unfold Lt26; infer_instance
def Key26 (a b : S26) : Prop := a.f0 = b.f0 ∧ a.f1 = b.f1
instance (a b : S26) : Decidable (Key26 a b) := by unfold Key26; infer_instance
def Hit (c d : Int) (x : S26) : Prop := x.f0 = c ∧ x.f1 ≤ d
instance (c d : Int) (x : S26) : Decidable (Hit c d x) := by unfold Hit; infer_instance
abbrev Srt (l : List S26) : Prop := l.Pairwise Lt26
/-- The last one that is in force. -/
def frc (c d : Int) : List S26 → S26 × Bool → S26 × Bool
  | [], s => s
  | x :: r, s => frc c d r (if Hit c d x then (x, true) else s)
theorem frc_spec (c d : Int) : ∀ (l : List S26) (s : S26 × Bool), Srt l → ((∀ x, x ∈ l → ¬ Hit c d x) ∧ frc c d l s = s) ∨ (∃ x, x ∈ l ∧ Hit c d x ∧ frc c d l s = (x, true) ∧ ∀ y, y ∈ l → Hit c d y → y.f1 ≤ x.f1)
  | [], s, _ => .inl ⟨fun x h => absurd h (by simp), rfl⟩
  | x :: r, s, hs => by
    obtain ⟨h1, h2⟩ := List.pairwise_cons.1 hs
    by_cases c1 : Hit c d x
    · rcases frc_spec c d r (x, true) h2 with ⟨q1, q2⟩ | ⟨y, y1, y2, y3, y4⟩
      · refine .inr ⟨x, by simp, c1, ?_, fun y hy hh => ?_⟩
        · show frc c d r (if Hit c d x then (x, true) else s) = _
          rw [if_pos c1]; exact q2
        · rcases List.mem_cons.1 hy with rfl | hy
          · exact Int.le_refl _
          · exact absurd hh (q1 y hy)
      · refine .inr ⟨y, by simp [y1], y2, ?_, fun z hz hh => ?_⟩
        · show frc c d r (if Hit c d x then (x, true) else s) = _
          rw [if_pos c1]; exact y3
        · rcases List.mem_cons.1 hz with rfl | hz
          · have := h1 y y1
            unfold Lt26 at this
            have a := c1.1
            have b := y2.1
            omega
          · exact y4 z hz hh
    · rcases frc_spec c d r s h2 with ⟨q1, q2⟩ | ⟨y, y1, y2, y3, y4⟩
      · refine .inl ⟨fun y hy => ?_, ?_⟩
        · rcases List.mem_cons.1 hy with rfl | hy
          · exact c1
          · exact q1 y hy
        · show frc c d r (if Hit c d x then (x, true) else s) = _
          rw [if_neg c1]; exact q2
      · refine .inr ⟨y, by simp [y1], y2, ?_, fun z hz hh => ?_⟩
        · show frc c d r (if Hit c d x then (x, true) else s) = _
          rw [if_neg c1]; exact y3
        · rcases List.mem_cons.1 hz with rfl | hz
          · exact absurd hh c1
          · exact y4 z hz hh
/-- The greatest one of some days: behind lo, or from lo on. -/
def Mst (strict : Bool) (c lo hi : Int) (s : S26 × Bool) (x : S26) : Prop := x.f0 = c ∧ (if strict = true then lo < x.f1 else lo ≤ x.f1) ∧ x.f1 ≤ hi ∧ (s.2 = false ∨ s.1.f2 < x.f2)
instance (b : Bool) (c lo hi : Int) (s : S26 × Bool) (x : S26) : Decidable (Mst b c lo hi s x) := by unfold Mst; infer_instance
theorem lt_trans26 {a b c : S26} (h1 : Lt26 a b) (h2 : Lt26 b c) : Lt26 a c := by unfold Lt26 at *; omega
end Go.Proofs.YtholbmidciapdaaGreatDoor.PL
namespace Go.Proofs.YtholbmidciapdaaGreatDoor.PL
open Go Go.RowKit Go.Proofs.YtholbmidciapdaaGreatDoorW.PrintWords Go.Proofs.YtholbmidciapdaaGreatDoorW.PrintLast Go.Proofs.YtholbmidciapdaaGreatDoorW.PrintMore Go.Proofs.YtholbmidciapdaaGreatDoor.Pr Go.Proofs.YtholbmidciapdaaGreatDoor.X
theorem within_eq (a b c : Int) : tariff_within.f a b c = some (decide (b ≤ a ∧ a ≤ c)) := by
  unfold tariff_within.f
  by_cases h : a ≥ b
  · rw [if_pos h]; exact congrArg some (decide_eq_decide.2 ⟨fun q => ⟨h, q⟩, fun q => q.2⟩)
  · rw [if_neg h, decide_eq_false (fun q => h q.1)]
def Rng (x : S26) : Prop := (1 ≤ x.f0 ∧ x.f0 ≤ 9) ∧ (0 ≤ x.f1 ∧ x.f1 ≤ 100000) ∧ 0 ≤ x.f2 ∧ x.f2 ≤ 1000000
instance (x : S26) : Decidable (Rng x) := by unfold Rng; infer_instance
theorem ranged_eq (a b c : Int) : tariff_ranged.f a b c = some (decide (Rng ⟨a, b, c⟩)) := by
  unfold tariff_ranged.f
  simp only [within_eq, Option.bind_some]
  by_cases h1 : 1 ≤ a ∧ a ≤ 9
  · rw [if_pos (decide_eq_true h1)]
    by_cases h2 : 0 ≤ b ∧ b ≤ 100000
    · rw [if_pos (decide_eq_true h2)]
      exact congrArg some (decide_eq_decide.2 ⟨fun q => ⟨h1, h2, q⟩, fun q => q.2.2⟩)
    · rw [if_neg (by simpa using h2), decide_eq_false (fun q : Rng ⟨a, b, c⟩ => h2 q.2.1)]
  · rw [if_neg (by simpa using h1), decide_eq_false (fun q : Rng ⟨a, b, c⟩ => h1 q.1)]
theorem refright_eq (a b c : Int) : spileref46_right.f a b c = some (decide (Rng ⟨a, b, c⟩)) := by
  unfold spileref46_right.f
  by_cases h1 : a ≥ 1
  case neg => rw [if_neg h1, decide_eq_false (fun q : Rng ⟨a, b, c⟩ => h1 q.1.1)]
  rw [if_pos h1]
  by_cases h2 : a ≤ 9
  case neg => rw [if_neg h2, decide_eq_false (fun q : Rng ⟨a, b, c⟩ => h2 q.1.2)]
  rw [if_pos h2]
  by_cases h3 : b ≥ 0
  case neg => rw [if_neg h3, decide_eq_false (fun q : Rng ⟨a, b, c⟩ => h3 q.2.1.1)]
  rw [if_pos h3]
  by_cases h4 : b ≤ 100000
  case neg => rw [if_neg h4, decide_eq_false (fun q : Rng ⟨a, b, c⟩ => h4 q.2.1.2)]
  rw [if_pos h4]
  by_cases h5 : c ≥ 0
  case neg => rw [if_neg h5, decide_eq_false (fun q : Rng ⟨a, b, c⟩ => h5 q.2.2.1)]
  rw [if_pos h5]
  exact congrArg some (decide_eq_decide.2 ⟨fun q => ⟨⟨h1, h2⟩, ⟨h3, h4⟩, h5, q⟩, fun q => q.2.2.2⟩)
def cmpv (a b : Int) : Int := if a < b then -1 else if a > b then 1 else 0
theorem cmp_eq (a b : Int) : cmp_Compare_int.f a b = some (cmpv a b) := by
  unfold cmp_Compare_int.f cmp_isNaN_int.f cmpv
  simp only [bne_self_eq_false, Option.bind_some, Bool.false_eq_true, if_false]
  split
  · rfl
  · split <;> rfl
theorem or_ev (x y : Int) : Ev (fun k => cmp_Or_int.f k [x, y]) (if x = 0 then y else x) := by
  refine Ev.step (fun k => cmp_Or_int.l0.eq_2 ..) (evp (by simp) (evp (by omega) (evp (by simp) ?_)))
  rw [show rd [x, y] 0 = x from rfl, show wrap64 (0 + 1) = 1 from by unfold wrap64; omega]
  by_cases c : x = 0
  · rw [if_pos c]
    refine evp c (Ev.step (fun k => cmp_Or_int.l0.eq_2 ..) (evp (by simp) (evp (by omega) (evp (by simp) ?_))))
    rw [show rd [x, y] 1 = y from rfl, show wrap64 (1 + 1) = 2 from by unfold wrap64; omega]
    by_cases d : y = 0
    · refine evp d (Ev.step (fun k => cmp_Or_int.l0.eq_2 ..) (evn (by simp) (evr d.symm)))
    · exact evn d (Ev.now _)
  · rw [if_neg c]; exact evn c (Ev.now _)
theorem compare_ev (a b : S26) : ∃ v, Ev (fun k => tariff_compare.f k a.f0 a.f1 a.f2 b.f0 b.f1 b.f2) v ∧ (v < 0 ↔ Lt26 a b) ∧ (v = 0 ↔ Key26 a b) := by
  refine ⟨_, evb (evc (fun _ => rfl) (cmp_eq _ _)) (evb (evc (fun _ => rfl) (cmp_eq _ _)) (evb (or_ev _ _) (Ev.now _))), ?_, ?_⟩
  · unfold cmpv Lt26; split <;> (try split) <;> (try split) <;> omega
  · unfold cmpv Key26; split <;> (try split) <;> (try split) <;> omega
theorem before_eq (a b : S26) : spileref46_before.f a.f0 a.f1 a.f2 b.f0 b.f1 b.f2 = some (decide (Lt26 a b)) := by
  unfold spileref46_before.f
  by_cases h : a.f0 < b.f0
  · rw [if_pos h]; exact congrArg some (decide_eq_true (show Lt26 a b from .inl h)).symm
  · rw [if_neg h]
    by_cases h2 : a.f0 = b.f0
    · rw [if_pos h2]; exact congrArg some (decide_eq_decide.2 ⟨fun q => (show Lt26 a b from .inr ⟨h2, q⟩), fun q => by unfold Lt26 at q; omega⟩)
    · rw [if_neg h2]; exact congrArg some (decide_eq_false (show ¬ Lt26 a b from fun q => by unfold Lt26 at q; omega)).symm
theorem rd26_get {l : List S26} {i : Nat} (h : i < l.length) : rd_T26 l (i : Int) = l[i] := by
  unfold rd_T26
  rw [Int.toNat_natCast, List.getD_eq_getElem?_getD, List.getElem?_eq_getElem h]
  rfl
theorem rd26_mem {l : List S26} {i : Int} (h0 : 0 ≤ i) (h : i < (l.length : Int)) : rd_T26 l i ∈ l := by
  obtain ⟨n, rfl⟩ : ∃ n : Nat, i = (n : Int) := ⟨i.toNat, by omega⟩
  rw [rd26_get (by omega)]
  exact List.getElem_mem _
theorem rd26_of_mem {l : List S26} {x : S26} (h : x ∈ l) : ∃ i : Int, 0 ≤ i ∧ i < (l.length : Int) ∧ rd_T26 l i = x := by
  obtain ⟨i, hi, rfl⟩ := List.mem_iff_getElem.1 h
  exact ⟨(i : Int), by omega, by omega, rd26_get hi⟩
theorem drop26 {l : List S26} {i : Int} (h0 : 0 ≤ i) (h1 : i < (l.length : Int)) : l.drop i.toNat = rd_T26 l i :: l.drop (i + 1).toNat := by
  obtain ⟨n, rfl⟩ : ∃ n : Nat, i = (n : Int) := ⟨i.toNat, by omega⟩
  rw [rd26_get (by omega), Int.toNat_natCast, show ((n : Int) + 1).toNat = n + 1 from by omega]
  exact List.drop_eq_getElem_cons (by omega)
def OKT (r : Int) (l : List S26) : Prop := (1 ≤ r ∧ r ≤ 4) ∧ (l.length : Int) ≤ 64 ∧ (∀ x, x ∈ l → Rng x) ∧ Srt l
theorem chain_lt {l : List S26} (h : ∀ j, 0 < j → j < (l.length : Int) → Lt26 (rd_T26 l (j - 1)) (rd_T26 l j)) : ∀ (d : Nat) (a : Int), 0 ≤ a → a + d + 1 < (l.length : Int) → Lt26 (rd_T26 l a) (rd_T26 l (a + d + 1))
  | 0, a, h0, h1 => by
    have := h (a + 1) (by omega) (by omega)
    rw [show a + 1 - 1 = a from by omega] at this
    rwa [show a + ((0 : Nat) : Int) + 1 = a + 1 from by omega]
  | d + 1, a, h0, h1 => by
    have ih := chain_lt h d a h0 (by omega)
    have := h (a + d + 1 + 1) (by omega) (by omega)
    rw [show a + (d : Int) + 1 + 1 - 1 = a + d + 1 from by omega] at this
    rw [show a + ((d + 1 : Nat) : Int) + 1 = a + d + 1 + 1 from by omega]
    exact lt_trans26 ih this
theorem srt_iff (l : List S26) : (∀ j, 0 < j → j < (l.length : Int) → Lt26 (rd_T26 l (j - 1)) (rd_T26 l j)) ↔ Srt l := by
  constructor
  · intro h
    refine List.pairwise_iff_getElem.2 (fun i j hi hj hij => ?_)
    have := chain_lt h (j - i - 1) (i : Int) (by omega) (by omega)
    rwa [show (i : Int) + ((j - i - 1 : Nat) : Int) + 1 = (j : Int) from by omega, rd26_get hi, rd26_get hj] at this
  · intro h j h0 h1
    obtain ⟨n, rfl⟩ : ∃ n : Nat, j = (n : Int) := ⟨j.toNat, by omega⟩
    have := List.pairwise_iff_getElem.1 h (n - 1) n (by omega) (by omega) (by omega)
    rwa [show (n : Int) - 1 = ((n - 1 : Nat) : Int) from by omega, rd26_get (by omega), rd26_get (by omega)]
theorem check_loop (r : Int) (l : List S26) (hl : (l.length : Int) ≤ 64) : ∀ i, 0 ≤ i → i ≤ (l.length : Int) →
    ∃ e : Int × Int, Ev (fun k => tariff_Check.l0 k l (l.length : Int) i r l) e ∧ Ev (fun k => spileref46_Check.l0 k i r l) e ∧
      (e.2 = 0 ↔ ∀ j, i ≤ j → j < (l.length : Int) → Rng (rd_T26 l j) ∧ (0 < j → Lt26 (rd_T26 l (j - 1)) (rd_T26 l j))) ∧ (e.2 = 0 → e.1 = -1) := by
  refine count_up 0 (l.length : Int) _ ?_ ?_
  · exact ⟨(-1, 0), Ev.step (fun k => tariff_Check.l0.eq_2 ..) (evn (by omega) (Ev.now _)), Ev.step (fun k => spileref46_Check.l0.eq_2 ..) (evn (by omega) (Ev.now _)), ⟨fun _ j a b => by omega, fun _ => rfl⟩, fun _ => rfl⟩
  · intro i h0 h1 ih
    have hw := w64_succ h0 h1 (by omega)
    have re := ranged_eq (rd_T26 l i).f0 (rd_T26 l i).f1 (rd_T26 l i).f2
    have rr := refright_eq (rd_T26 l i).f0 (rd_T26 l i).f1 (rd_T26 l i).f2
    have e26 : (⟨(rd_T26 l i).f0, (rd_T26 l i).f1, (rd_T26 l i).f2⟩ : S26) = rd_T26 l i := rfl
    rw [e26] at re rr
    by_cases c1 : Rng (rd_T26 l i)
    case neg =>
      rw [decide_eq_false c1] at re rr
      exact ⟨(i, 2), Ev.step (fun k => tariff_Check.l0.eq_2 ..) (evp h1 (evp h0 (evp h1 (evb (evc (fun _ => rfl) re) (evn (by simp) (Ev.now _)))))), Ev.step (fun k => spileref46_Check.l0.eq_2 ..) (evp h1 (evp h0 (evb (evc (fun _ => rfl) rr) (evn (by simp) (Ev.now _))))),
        ⟨fun q => by simp at q, fun q => absurd (q i (by omega) h1).1 c1⟩, fun q => by simp at q⟩
    rw [decide_eq_true c1] at re rr
    obtain ⟨e, e1, e2, e3, e4⟩ := ih
    have ext : (0 < i → Lt26 (rd_T26 l (i - 1)) (rd_T26 l i)) → ((∀ j, i + 1 ≤ j → j < (l.length : Int) → Rng (rd_T26 l j) ∧ (0 < j → Lt26 (rd_T26 l (j - 1)) (rd_T26 l j))) ↔ ∀ j, i ≤ j → j < (l.length : Int) → Rng (rd_T26 l j) ∧ (0 < j → Lt26 (rd_T26 l (j - 1)) (rd_T26 l j))) := fun hh =>
      ⟨fun q j a b => by
        by_cases e : j = i
        · rw [e]; exact ⟨c1, hh⟩
        · exact q j (by omega) b, fun q j a b => q j (by omega) b⟩
    by_cases c2 : i > 0
    · have hp := w64_pred (i := i) (n := (l.length : Int)) h0 (by omega) (by omega)
      obtain ⟨v, v1, v2, v3⟩ := compare_ev (rd_T26 l (i - 1)) (rd_T26 l i)
      have hb := before_eq (rd_T26 l (i - 1)) (rd_T26 l i)
      by_cases c3 : Lt26 (rd_T26 l (i - 1)) (rd_T26 l i)
      · rw [decide_eq_true c3] at hb
        have v4 := v2.2 c3
        refine ⟨e, Ev.step (fun k => tariff_Check.l0.eq_2 ..) (evp h1 (evp h0 (evp h1 (evb (evc (fun _ => rfl) re) (evp rfl (evp c2 ?_)))))), Ev.step (fun k => spileref46_Check.l0.eq_2 ..) (evp h1 (evp h0 (evb (evc (fun _ => rfl) rr) (evp rfl (evp c2 ?_))))), e3.trans (ext (fun _ => c3)), e4⟩
        · rw [hp, hw]; exact evp (by omega) (evp (by omega) (evb v1 (evn (by omega) e1)))
        · rw [hp, hw]; exact evp (by omega) (evp (by omega) (evb (evc (fun _ => rfl) hb) (evp rfl e2)))
      · rw [decide_eq_false c3] at hb
        have v4 : v ≥ 0 := by
          by_cases q : v < 0
          · exact absurd (v2.1 q) c3
          · omega
        refine ⟨(i, 5), Ev.step (fun k => tariff_Check.l0.eq_2 ..) (evp h1 (evp h0 (evp h1 (evb (evc (fun _ => rfl) re) (evp rfl (evp c2 ?_)))))), Ev.step (fun k => spileref46_Check.l0.eq_2 ..) (evp h1 (evp h0 (evb (evc (fun _ => rfl) rr) (evp rfl (evp c2 ?_))))), ⟨fun q => by simp at q, fun q => absurd ((q i (by omega) h1).2 c2) c3⟩, fun q => by simp at q⟩
        · rw [hp]; exact evp (by omega) (evp (by omega) (evb v1 (evp v4 (Ev.now _))))
        · rw [hp]; exact evp (by omega) (evp (by omega) (evb (evc (fun _ => rfl) hb) (evn (by simp) (Ev.now _))))
    · refine ⟨e, Ev.step (fun k => tariff_Check.l0.eq_2 ..) (evp h1 (evp h0 (evp h1 (evb (evc (fun _ => rfl) re) (evp rfl (evn c2 ?_)))))), Ev.step (fun k => spileref46_Check.l0.eq_2 ..) (evp h1 (evp h0 (evb (evc (fun _ => rfl) rr) (evp rfl (evn c2 ?_))))), e3.trans (ext (fun q => absurd q c2)), e4⟩
      · rw [hw]; exact e1
      · rw [hw]; exact e2
theorem check_both (r : Int) (l : List S26) : ∃ e : Int × Int, Ev (fun k => tariff_Check.f k r l) e ∧ Ev (fun k => spileref46_Check.f k r l) e ∧ (e.2 = 0 ↔ OKT r l) ∧ (e.2 = 0 → e.1 = -1) := by
  have two : ∀ b : Bool, b = true → Ev (fun k => spileref46_Check.j0 k b r l) (-1, 2) := fun b hb => Ev.step (fun k => spileref46_Check.j0.eq_2 ..) (evp hb (Ev.now _))
  have w := within_eq r 1 4
  by_cases c0 : 1 ≤ r ∧ r ≤ 4
  case neg =>
    rw [decide_eq_false c0] at w
    refine ⟨(-1, 2), evb (evc (fun _ => rfl) w) (evn (by simp) (Ev.now _)), ?_, ⟨fun q => by simp at q, fun q => absurd q.1 c0⟩, fun _ => rfl⟩
    by_cases c1 : r < 1
    · exact evp c1 (two _ rfl)
    · exact evn c1 (two _ (decide_eq_true (by omega)))
  rw [decide_eq_true c0] at w
  have pre : ∀ e, Ev (fun k => if (l.length : Int) > 64 then (some ((-1), 8)) else (spileref46_Check.l0 k 0 r l)) e → Ev (fun k => spileref46_Check.f k r l) e := fun e he => by
    refine evn (by omega) ?_
    rw [decide_eq_false (show ¬ r > 4 by omega)]
    exact Ev.step (fun k => spileref46_Check.j0.eq_2 ..) (evn (by simp) he)
  by_cases c2 : (l.length : Int) > 64
  · exact ⟨(-1, 8), evb (evc (fun _ => rfl) w) (evp rfl (evp c2 (Ev.now _))), pre _ (evp c2 (Ev.now _)), ⟨fun q => by simp at q, fun q => absurd q.2.1 (by omega)⟩, fun _ => rfl⟩
  · obtain ⟨e, e1, e2, e3, e4⟩ := check_loop r l (by omega) 0 (by omega) (by omega)
    refine ⟨e, evb (evc (fun _ => rfl) w) (evp rfl (evn c2 e1)), pre _ (evn c2 e2), e3.trans ⟨fun q => ⟨c0, by omega, fun x hx => ?_, (srt_iff l).1 (fun j a b => (q j (by omega) b).2 a)⟩, fun q j a b => ⟨q.2.2.1 _ (rd26_mem a b), fun p => (srt_iff l).2 q.2.2.2 j p b⟩⟩, e4⟩
    obtain ⟨i, i0, i1, rfl⟩ := rd26_of_mem hx
    exact (q i i0 i1).1
theorem right_B (r : Int) (l : List S26) : EvB (fun k => tariff_right.f k r l) (OKT r l) := by
  obtain ⟨e, e1, _, e3, _⟩ := check_both r l
  refine ⟨fun h => evb e1 (evr (beq_iff_eq.2 (e3.2 h))), fun h => evb e1 (evr ?_)⟩
  rw [beq_eq_false_iff_ne]
  exact fun q => h (e3.1 q)
theorem clone_eq {l : List S26} (h : (l.length : Int) ≤ 65) : slices_Clone26.f l = some l := by
  unfold slices_Clone26.f
  rw [if_pos (by omega)]
theorem cp_eq {r : Int} {l : List S26} (h : (l.length : Int) ≤ 65) : spilelaw46_cp.f r l = some (r, l) := by
  unfold spilelaw46_cp.f
  rw [clone_eq h]
  rfl
theorem few_eq (r : Int) (l : List S26) : ∃ b, spileref46_Few.f r l = some b ∧ (b = true → (l.length : Int) ≤ 65) := by
  unfold spileref46_Few.f
  by_cases c : (l.length : Int) ≤ 20
  · exact ⟨true, if_pos c, fun _ => by omega⟩
  · refine ⟨(l.length : Int) == 65, if_neg c, fun q => ?_⟩
    have := beq_iff_eq.1 q
    omega
end Go.Proofs.YtholbmidciapdaaGreatDoor.PL
namespace Go.Proofs.YtholbmidciapdaaGreatDoor.PL
/-- Whether a quotient is rounded up. -/
def Up (rule q r : Int) : Prop := (rule = 2 ∧ r > 0) ∨ (rule = 3 ∧ 2 * r ≥ 10000000) ∨ (rule = 4 ∧ (2 * r > 10000000 ∨ (2 * r = 10000000 ∧ q % 2 = 1)))
instance (rule q r : Int) : Decidable (Up rule q r) := by unfold Up; infer_instance
def rnd (rule n : Int) : Int := if Up rule (n / 10000000) (n % 10000000) then n / 10000000 + 1 else n / 10000000
/-- What a rounded quotient is. -/
def Near (rule n d : Int) : Prop := (rule = 1 ∧ 0 ≤ n - 10000000 * d ∧ n - 10000000 * d < 10000000) ∨ (rule = 2 ∧ n - 10000000 * d ≤ 0 ∧ -10000000 < n - 10000000 * d) ∨
  (rule = 3 ∧ -10000000 ≤ 2 * (n - 10000000 * d) ∧ 2 * (n - 10000000 * d) < 10000000) ∨
  (rule = 4 ∧ -10000000 ≤ 2 * (n - 10000000 * d) ∧ 2 * (n - 10000000 * d) ≤ 10000000 ∧ (2 * (n - 10000000 * d) = 10000000 ∨ 2 * (n - 10000000 * d) = -10000000 → d % 2 = 0))
theorem rnd_near {rule n : Int} (h1 : 1 ≤ rule) (h2 : rule ≤ 4) : Near rule n (rnd rule n) := by
  unfold rnd
  by_cases c : Up rule (n / 10000000) (n % 10000000)
  · rw [if_pos c]; unfold Up at c; unfold Near; omega
  · rw [if_neg c]; unfold Up at c; unfold Near; omega
theorem rnd_bounds {rule n : Int} (h1 : 1 ≤ rule) (h2 : rule ≤ 4) (h : 0 ≤ n) : 0 ≤ rnd rule n ∧ rnd rule n ≤ n / 10000000 + 1 := by
  unfold rnd
  by_cases c : Up rule (n / 10000000) (n % 10000000)
  · rw [if_pos c]; omega
  · rw [if_neg c]; omega
end Go.Proofs.YtholbmidciapdaaGreatDoor.PL
namespace Go.Proofs.YtholbmidciapdaaGreatDoor.PL
open Go Go.RowKit Go.Proofs.YtholbmidciapdaaGreatDoorW.PrintWords Go.Proofs.YtholbmidciapdaaGreatDoorW.PrintLast Go.Proofs.YtholbmidciapdaaGreatDoorW.PrintMore Go.Proofs.YtholbmidciapdaaGreatDoor.Pr Go.Proofs.YtholbmidciapdaaGreatDoor.X
instance (R : Int) (l : List S26) : Decidable (OKT R l) := by unfold OKT; infer_instance
def F4 (s : S26 × Bool) : Int × Int × Int × Bool := (s.1.f0, s.1.f1, s.1.f2, s.2)
def G4 (s : S26 × Bool) : Int × Int × Int × Int := if s.2 = true then (s.1.f0, s.1.f1, s.1.f2, 0) else (0, 0, 0, 7)
theorem frc_cons (c d : Int) (x : S26) (r : List S26) (s : S26 × Bool) : frc c d (x :: r) s = frc c d r (if Hit c d x then (x, true) else s) := rfl
theorem force_loop (l : List S26) (hl : (l.length : Int) ≤ 65) (R c d : Int) : ∀ i, 0 ≤ i → i ≤ (l.length : Int) → ∀ s : S26 × Bool,
    Ev (fun k => tariff_force.l0 k c d s.2 l (l.length : Int) i s.1.f0 s.1.f1 s.1.f2) (F4 (frc c d (l.drop i.toNat) s)) ∧
    Ev (fun k => spileref46_Force.l0 k c d s.2 i R l s.1.f0 s.1.f1 s.1.f2) (F4 (frc c d (l.drop i.toNat) s)) := by
  refine count_up 0 (l.length : Int) _ ?_ ?_
  · intro s
    rw [List.drop_eq_nil_of_le (by omega)]
    exact ⟨Ev.step (fun k => tariff_force.l0.eq_2 ..) (evn (by omega) (Ev.now _)), Ev.step (fun k => spileref46_Force.l0.eq_2 ..) (evn (by omega) (Ev.now _))⟩
  · intro i h0 h1 ih s
    have hw := w64_succ h0 h1 (by omega)
    rw [drop26 h0 h1, frc_cons]
    by_cases q : Hit c d (rd_T26 l i)
    · rw [if_pos q]
      obtain ⟨a, b⟩ := ih (rd_T26 l i, true)
      exact ⟨Ev.step (fun k => tariff_force.l0.eq_2 ..) (evp h1 (evp h0 (evp h1 (evp q.1 (evp q.2 (by rw [hw]; exact a)))))), Ev.step (fun k => spileref46_Force.l0.eq_2 ..) (evp h1 (evp h0 (evp q.1 (evp q.2 (by rw [hw]; exact b)))))⟩
    · rw [if_neg q]
      obtain ⟨a, b⟩ := ih s
      by_cases q1 : (rd_T26 l i).f0 = c
      · have q2 : ¬ (rd_T26 l i).f1 ≤ d := fun z => q ⟨q1, z⟩
        exact ⟨Ev.step (fun k => tariff_force.l0.eq_2 ..) (evp h1 (evp h0 (evp h1 (evp q1 (evn q2 (by rw [hw]; exact a)))))), Ev.step (fun k => spileref46_Force.l0.eq_2 ..) (evp h1 (evp h0 (evp q1 (evn q2 (by rw [hw]; exact b)))))⟩
      · exact ⟨Ev.step (fun k => tariff_force.l0.eq_2 ..) (evp h1 (evp h0 (evp h1 (evn q1 (by rw [hw]; exact a))))), Ev.step (fun k => spileref46_Force.l0.eq_2 ..) (evp h1 (evp h0 (evn q1 (by rw [hw]; exact b))))⟩
def s0 : S26 × Bool := (⟨0, 0, 0⟩, false)
theorem force_ev (R : Int) (l : List S26) (hl : (l.length : Int) ≤ 65) (c d : Int) : Ev (fun k => tariff_force.f k R l c d) (F4 (frc c d l s0)) := by
  have := (force_loop l hl R c d 0 (by omega) (by omega) s0).1
  rw [show (0 : Int).toNat = 0 from rfl, List.drop_zero] at this
  exact this
def InR (c d : Int) : Prop := (1 ≤ c ∧ c ≤ 9) ∧ 0 ≤ d ∧ d ≤ 100000
instance (c d : Int) : Decidable (InR c d) := by unfold InR; infer_instance
theorem within_B (a b c : Int) : EvB (fun _ => tariff_within.f a b c) (b ≤ a ∧ a ≤ c) := by
  refine ⟨fun h => evc (fun _ => rfl) ?_, fun h => evc (fun _ => rfl) ?_⟩
  · rw [within_eq, decide_eq_true h]
  · rw [within_eq, decide_eq_false h]
def atV (R : Int) (l : List S26) (c d : Int) : Int × Int × Int × Int := if OKT R l then (if InR c d then G4 (frc c d l s0) else (0, 0, 0, 2)) else (0, 0, 0, 1)
theorem at_ev (R : Int) (l : List S26) (hl : (l.length : Int) ≤ 65) (c d : Int) : Ev (fun k => tariff_At.f k R l c d) (atV R l c d) := by
  have hb := right_B R l
  have b1 := within_B c 1 9
  have b2 := within_B d 0 100000
  unfold atV
  by_cases ok : OKT R l
  case neg => rw [if_neg ok]; exact evb (hb.2 ok) (evn (by simp) (Ev.now _))
  rw [if_pos ok]
  have two : ∀ b : Bool, b = true → Ev (fun k => tariff_At.j0 k c d b R l) (0, 0, 0, 2) := fun b hb => Ev.step (fun k => tariff_At.j0.eq_2 ..) (evp hb (Ev.now _))
  refine evb (hb.1 ok) (evp rfl ?_)
  by_cases h1 : 1 ≤ c ∧ c ≤ 9
  case neg => rw [if_neg (fun q : InR c d => h1 q.1)]; exact evb (b1.2 h1) (evn (by simp) (two _ rfl))
  refine evb (b1.1 h1) (evp rfl ?_)
  by_cases h2 : 0 ≤ d ∧ d ≤ 100000
  case neg => rw [if_neg (fun q : InR c d => h2 q.2)]; exact evb (b2.2 h2) (two _ rfl)
  rw [if_pos (show InR c d from ⟨h1, h2⟩)]
  refine evb (b2.1 h2) (Ev.step (fun k => tariff_At.j0.eq_2 ..) (evn (by simp) (evb (force_ev R l hl c d) ?_)))
  by_cases q : (frc c d l s0).2 = true
  · exact evp q (evr (by unfold G4; rw [if_pos q]; rfl))
  · exact evn q (evr (by unfold G4; rw [if_neg q]))
def InS (c a b : Int) : Prop := (1 ≤ c ∧ c ≤ 9) ∧ (0 ≤ a ∧ a ≤ 100000) ∧ a ≤ b ∧ b ≤ 100000
instance (c a b : Int) : Decidable (InS c a b) := by unfold InS; infer_instance
def InD (c a b : Int) (x : S26) : Prop := x.f0 = c ∧ a ≤ x.f1 ∧ x.f1 ≤ b
instance (c a b : Int) (x : S26) : Decidable (InD c a b x) := by unfold InD; infer_instance
theorem u64W {x : Int} (h0 : 0 ≤ x) (h1 : x < 18446744073709551616) : IntKind.u64.wrap x = x := by
  unfold IntKind.wrap
  simp [IntKind.signed, IntKind.bits]
  omega
theorem rounded_eq {n R : Int} (h0 : 0 ≤ n) (h1 : n < 18446744073709551616) (r1 : 1 ≤ R) (r2 : R ≤ 4) : tariff_rounded.f n R = some (rnd R n) := by
  have e1 : Int.tmod n 10000000 = n % 10000000 := Int.tmod_eq_emod_of_nonneg h0
  have e2 : Int.tdiv n 10000000 = n / 10000000 := Int.tdiv_eq_ediv_of_nonneg h0
  have e3 : IntKind.u64.wrap (n / 10000000) = n / 10000000 := u64W (by omega) (by omega)
  have e4 : IntKind.u64.wrap (2 * (n % 10000000)) = 2 * (n % 10000000) := u64W (by omega) (by omega)
  have e5 : IntKind.u64.wrap (n / 10000000 + 1) = n / 10000000 + 1 := u64W (by omega) (by omega)
  have e6 : wrap64 (n / 10000000) = n / 10000000 := w64 (by omega) (by omega)
  have e7 : wrap64 (n / 10000000 + 1) = n / 10000000 + 1 := w64 (by omega) (by omega)
  have e8 : Int.tmod (n / 10000000) 2 = (n / 10000000) % 2 := Int.tmod_eq_emod_of_nonneg (by omega)
  unfold tariff_rounded.f
  simp only [e1, e2, e3, e4, e5, e6, e7, e8]
  unfold rnd
  repeat' split
  all_goals first | rfl | omega | (exfalso; unfold Up at *; omega)
/-- The rate in force has a right number of coins. -/
theorem at_coins {R : Int} {l : List S26} {c d : Int} (h : (atV R l c d).2.2.2 = 0) : OKT R l ∧ InR c d ∧ (frc c d l s0).2 = true ∧ (frc c d l s0).1 ∈ l ∧ atV R l c d = ((frc c d l s0).1.f0, (frc c d l s0).1.f1, (frc c d l s0).1.f2, 0) := by
  unfold atV at h ⊢
  by_cases ok : OKT R l
  case neg => rw [if_neg ok] at h; simp at h
  rw [if_pos ok] at h ⊢
  by_cases hr : InR c d
  case neg => rw [if_neg hr] at h; simp at h
  rw [if_pos hr] at h ⊢
  unfold G4 at h ⊢
  rcases frc_spec c d l s0 ok.2.2.2 with ⟨_, e⟩ | ⟨x, x1, _, e, _⟩
  · rw [e] at h; simp [s0] at h
  · rw [e]
    exact ⟨ok, hr, rfl, x1, if_pos rfl⟩
def dutyV (R : Int) (l : List S26) (c d a : Int) : Int × Int := if OKT R l then (if 0 ≤ a ∧ a ≤ 10737418240000 then (if (atV R l c d).2.2.2 = 0 then (rnd R ((atV R l c d).2.2.1 * a), 0) else (0, (atV R l c d).2.2.2)) else (0, 2)) else (0, 1)
theorem duty_ev (R : Int) (l : List S26) (hl : (l.length : Int) ≤ 65) (c d a : Int) : Ev (fun k => tariff_Duty.f k R l c d a) (dutyV R l c d a) := by
  have hb := right_B R l
  have bw := within_B a 0 10737418240000
  have ha := at_ev R l hl c d
  unfold dutyV
  by_cases ok : OKT R l
  case neg =>
    rw [if_neg ok]
    have e : atV R l c d = (0, 0, 0, 1) := by unfold atV; rw [if_neg ok]
    rw [e] at ha
    exact evb (hb.2 ok) (evn (by simp) (Ev.step (fun k => tariff_Duty.j0.eq_2 ..) (evn (by simp) (evb ha (evn (by simp) (Ev.now _))))))
  rw [if_pos ok]
  refine evb (hb.1 ok) (evp rfl ?_)
  by_cases h1 : 0 ≤ a ∧ a ≤ 10737418240000
  case neg => rw [if_neg h1]; exact evb (bw.2 h1) (Ev.step (fun k => tariff_Duty.j0.eq_2 ..) (evp rfl (Ev.now _)))
  rw [if_pos h1]
  refine evb (bw.1 h1) (Ev.step (fun k => tariff_Duty.j0.eq_2 ..) (evn (by simp) (evb ha ?_)))
  by_cases h2 : (atV R l c d).2.2.2 = 0
  case neg => exact evn h2 (evr (if_neg h2).symm)
  refine evp h2 ?_
  rw [if_pos h2]
  obtain ⟨_, _, _, hm, e⟩ := at_coins h2
  have rg := (ok.2.2.1 _ hm).2.2
  have ec : (atV R l c d).2.2.1 = (frc c d l s0).1.f2 := by rw [e]
  rw [← ec] at rg
  have m := mulb (x := (atV R l c d).2.2.1) (y := a) (X := 1000000) (Y := 10737418240000) rg.1 rg.2 h1.1 h1.2
  have er : tariff_rounded.f (IntKind.u64.wrap ((IntKind.u64.wrap ((atV R l c d).2.2.1)) * (IntKind.u64.wrap a))) R = some (rnd R ((atV R l c d).2.2.1 * a)) := by
    rw [u64W rg.1 (by omega), u64W h1.1 (by omega), u64W m.1 (by omega)]
    exact rounded_eq m.1 (by omega) ok.1.1 ok.1.2
  exact evb (evc (fun _ => rfl) er) (Ev.now _)
end Go.Proofs.YtholbmidciapdaaGreatDoor.PL
namespace Go.Proofs.YtholbmidciapdaaGreatDoor.PL
open Go Go.RowKit Go.Proofs.YtholbmidciapdaaGreatDoorW.PrintWords Go.Proofs.YtholbmidciapdaaGreatDoorW.PrintLast Go.Proofs.YtholbmidciapdaaGreatDoorW.PrintMore Go.Proofs.YtholbmidciapdaaGreatDoor.Pr Go.Proofs.YtholbmidciapdaaGreatDoor.X
theorem dutyV_in (R : Int) (l : List S26) (c d : Int) {a : Int} (h0 : 0 ≤ a) (h1 : a ≤ 10737418240000) : dutyV R l c d a = if (atV R l c d).2.2.2 = 0 then (rnd R ((atV R l c d).2.2.1 * a), 0) else (0, (atV R l c d).2.2.2) := by
  unfold dutyV
  by_cases ok : OKT R l
  · rw [if_pos ok, if_pos ⟨h0, h1⟩]
  · have e : atV R l c d = (0, 0, 0, 1) := by unfold atV; rw [if_neg ok]
    rw [if_neg ok, e]
    simp
end Go.Proofs.YtholbmidciapdaaGreatDoor.PL
namespace Go.Proofs.YtholbmidciapdaaGreatDoor.Pure
open Go Go.RowKit Go.Proofs.YtholbmidciapdaaGreatDoorW.PrintWords Go.Proofs.YtholbmidciapdaaGreatDoorW.PrintLast Go.Proofs.YtholbmidciapdaaGreatDoorW.PrintMore Go.Proofs.YtholbmidciapdaaGreatDoor.Pr Go.Proofs.YtholbmidciapdaaGreatDoor.Opn Go.Proofs.YtholbmidciapdaaGreatDoor.X Go.Proofs.YtholbmidciapdaaGreatDoor.PL
theorem u64mod (x : Int) : IntKind.u64.wrap x = x % 18446744073709551616 := by
  unfold IntKind.wrap
  simp [IntKind.signed, IntKind.bits]
theorem mul_eq (x y : Int) (h0 : 0 ≤ x) (h1 : x < 18446744073709551616) (k0 : 0 ≤ y) (k1 : y < 18446744073709551616) : bits_Mul64.f x y = some (x * y / 18446744073709551616, x * y % 18446744073709551616) := by
  unfold bits_Mul64.f
  have e1 : ∀ z : Int, 0 ≤ z → z < 18446744073709551616 → Go.bits .and .u64 z 4294967295 = z % 4294967296 := fun z a b => and_low32 z a b
  rw [e1 x h0 h1, e1 y k0 k1]
  simp only [u64mod]
  rw [e1 _ (by omega) (by omega)]
  rw [mul64_arith x y h0 h1 k0 k1]
theorem near_ev (R : Int) (l : List S26) (hn : (l.length : Int) ≤ 65) (c d a : Int) : Ev (fun k => spilelaw46_TariffNear.j0 k c d a false R l) true := by
  have hcp : Ev (fun _ : Nat => spilelaw46_cp.f R l) (R, l) := evc (fun _ => rfl) (cp_eq hn)
  have dd := duty_ev R l hn c d a
  have da := at_ev R l hn c d
  refine Ev.step (fun k => spilelaw46_TariffNear.j0.eq_2 ..) (evn (by simp) (evb hcp (evb dd (evb hcp (evb da ?_)))))
  have bad : ∀ (x z f : Int) (e : Int) (t : Bool) (r : Int × Int × Int × Int), t = true → (e = f ∨ (e = 2 ∧ ¬ (0 ≤ a ∧ a ≤ 10737418240000))) → Ev (fun k => spilelaw46_TariffNear.j1 k a 0 e f t R l r.1 r.2.1 r.2.2.1) true := by
    intro x z f e t r ht h
    refine Ev.step (fun k => spilelaw46_TariffNear.j1.eq_2 ..) (evp ht (evp rfl ?_))
    by_cases q : e = f
    · exact evp q (Ev.now _)
    · obtain ⟨e2, hr⟩ := h.resolve_left q
      refine evn q (evp e2 ?_)
      by_cases q0 : a < 0
      · exact evp q0 (Ev.now _)
      · exact evn q0 (evr (decide_eq_true (by omega)))
  by_cases ok : OKT R l
  case neg =>
    have e1 : dutyV R l c d a = (0, 1) := by unfold dutyV; rw [if_neg ok]
    have e2 : atV R l c d = (0, 0, 0, 1) := by unfold atV; rw [if_neg ok]
    rw [e1, e2]
    exact evn (by simp) (bad 0 0 1 1 true (0, 0, 0, 1) rfl (.inl rfl))
  by_cases ha : 0 ≤ a ∧ a ≤ 10737418240000
  case neg =>
    have e1 : dutyV R l c d a = (0, 2) := by unfold dutyV; rw [if_pos ok, if_neg ha]
    rw [e1]
    exact evn (by simp) (bad 0 0 _ 2 true (atV R l c d) rfl (.inr ⟨rfl, ha⟩))
  have e1 := dutyV_in R l c d ha.1 ha.2
  by_cases h : (atV R l c d).2.2.2 = 0
  case neg =>
    rw [if_neg h] at e1
    rw [e1]
    exact evn h (bad 0 0 _ _ true (atV R l c d) rfl (.inl rfl))
  rw [if_pos h] at e1
  obtain ⟨_, _, _, hm, e⟩ := at_coins h
  have rg := (ok.2.2.1 _ hm).2.2
  have ec : (atV R l c d).2.2.1 = (frc c d l s0).1.f2 := by rw [e]
  rw [← ec] at rg
  rw [e1, h]
  generalize (atV R l c d).1 = z1
  generalize (atV R l c d).2.1 = z2
  generalize (atV R l c d).2.2.1 = m at *
  have p1 := mulb (x := m) (y := a) (X := 1000000) (Y := 10737418240000) rg.1 rg.2 ha.1 ha.2
  have r1 := ok.1.1
  have r2 := ok.1.2
  have hb := rnd_bounds (rule := R) (n := m * a) r1 r2 p1.1
  have hne := rnd_near (rule := R) (n := m * a) r1 r2
  have mm := mul_eq (IntKind.u64.wrap m) (IntKind.u64.wrap a) (by rw [u64W rg.1 (by omega)]; exact rg.1) (by rw [u64W rg.1 (by omega)]; omega) (by rw [u64W ha.1 (by omega)]; exact ha.1) (by rw [u64W ha.1 (by omega)]; omega)
  have mm2 := mul_eq (IntKind.u64.wrap (rnd R (m * a))) 10000000 (by rw [u64W hb.1 (by omega)]; exact hb.1) (by rw [u64W hb.1 (by omega)]; omega) (by omega) (by omega)
  rw [u64W rg.1 (by omega), u64W ha.1 (by omega)] at mm
  rw [u64W hb.1 (by omega)] at mm2
  have w1 : IntKind.u64.wrap m = m := u64W rg.1 (by omega)
  have w2 : IntKind.u64.wrap a = a := u64W ha.1 (by omega)
  have w3 : IntKind.u64.wrap (rnd R (m * a)) = rnd R (m * a) := u64W hb.1 (by omega)
  generalize m * a = n at *
  generalize hx : rnd R n = x at *
  have f1 : bits_Mul64.f m a = some (0, n) := by rw [mm]; exact congrArg some (Prod.ext (by show n / 18446744073709551616 = 0; omega) (by show n % 18446744073709551616 = n; omega))
  have f2 : bits_Mul64.f x 10000000 = some (0, x * 10000000) := by rw [mm2]; exact congrArg some (Prod.ext (by show x * 10000000 / 18446744073709551616 = 0; omega) (by show x * 10000000 % 18446744073709551616 = x * 10000000; omega))
  refine evp rfl ?_
  rw [show ((0 : Int) != 0) = false from rfl]
  refine Ev.step (fun k => spilelaw46_TariffNear.j1.eq_2 ..) (evn (by simp) (evn (by omega) (evn (by omega) ?_)))
  rw [decide_eq_false (show ¬ m < 0 by omega)]
  refine Ev.step (fun k => spilelaw46_TariffNear.j2.eq_2 ..) (evn (by simp) ?_)
  rw [w1, w2, w3]
  refine evb (evc (fun _ => rfl) f1) (evb (evc (fun _ => rfl) f2) ?_)
  have last : ∀ t : Int, t = 2 * (n - 10000000 * x) → Ev (fun k => spilelaw46_TariffNear.j4 k x t false R l) true := by
    intro t ht
    have et : Int.tmod x 2 = x % 2 := Int.tmod_eq_emod_of_nonneg hb.1
    unfold Near at hne
    refine Ev.step (fun k => spilelaw46_TariffNear.j4.eq_2 ..) (evn (by simp) ?_)
    rw [et]
    by_cases q1 : R = 1
    · exact evp q1 (evp (by omega) (evr (decide_eq_true (by omega))))
    by_cases q2 : R = 2
    · exact evn q1 (evp q2 (evp (by omega) (evr (decide_eq_true (by omega)))))
    by_cases q3 : R = 3
    · exact evn q1 (evn q2 (evp q3 (evp (by omega) (evr (decide_eq_true (by omega))))))
    refine evn q1 (evn q2 (evn q3 (evp (by omega) (evp (by omega) ?_))))
    by_cases q4 : t = 10000000
    · exact evp q4 (evr (beq_iff_eq.2 (by omega)))
    by_cases q5 : t = -10000000
    · exact evn q4 (evp q5 (evr (beq_iff_eq.2 (by omega))))
    · exact evn q4 (evn q5 (Ev.now _))
  have hbig : -10000000 ≤ n - 10000000 * x ∧ n - 10000000 * x ≤ 10000000 := by unfold Near at hne; omega
  by_cases hs : n < x * 10000000
  · have g1 : bits_Sub64.f n (x * 10000000) 0 = some (18446744073709551616 + n - x * 10000000, 1) := by
      unfold bits_Sub64.f
      rw [if_pos ⟨p1.1, by omega, by omega, .inl rfl⟩, if_pos (by omega)]
      exact congrArg some (Prod.ext (by show (n + 18446744073709551616 - x * 10000000 - 0) % 18446744073709551616 = _; omega) rfl)
    have g2 : bits_Sub64.f 0 0 1 = some (18446744073709551615, 1) := rfl
    refine evb (evc (fun _ => rfl) g1) (evb (evc (fun _ => rfl) g2) (evn (by simp) ?_))
    rw [show ((18446744073709551615 : Int) != 18446744073709551615) = false from rfl]
    have v1 : wrap64 (18446744073709551616 + n - x * 10000000) = n - 10000000 * x := by unfold wrap64; omega
    have v2 : wrap64 (2 * (n - 10000000 * x)) = 2 * (n - 10000000 * x) := w64 (by omega) (by omega)
    refine Ev.step (fun k => spilelaw46_TariffNear.j3.eq_2 ..) (evn (by simp) (evn (by simp) ?_))
    rw [v1, v2, decide_eq_false (show ¬ (18446744073709551616 + n - x * 10000000 < 18446744073699551616) by omega)]
    exact last _ rfl
  · have g1 : bits_Sub64.f n (x * 10000000) 0 = some (n - x * 10000000, 0) := by
      unfold bits_Sub64.f
      rw [if_pos ⟨p1.1, by omega, by omega, .inl rfl⟩, if_neg (by omega)]
      exact congrArg some (Prod.ext (by show (n + 18446744073709551616 - x * 10000000 - 0) % 18446744073709551616 = _; omega) rfl)
    have g2 : bits_Sub64.f 0 0 0 = some (0, 0) := rfl
    have v1 : wrap64 (n - x * 10000000) = n - 10000000 * x := by unfold wrap64; omega
    have v2 : wrap64 (2 * (n - 10000000 * x)) = 2 * (n - 10000000 * x) := w64 (by omega) (by omega)
    refine evb (evc (fun _ => rfl) g1) (evb (evc (fun _ => rfl) g2) (evp rfl (Ev.step (fun k => spilelaw46_TariffNear.j3.eq_2 ..) (evn (by simp) (evp rfl (evn (by omega) ?_))))))
    rw [v1, v2]
    exact last _ rfl
theorem TariffNear : tariffNearPure := by
  intro R l c d a hR hl hc hd ha
  refine Ev.rounds ?_
  obtain ⟨q, hq, hq2⟩ := few_eq R l
  have haw : Ev (fun _ : Nat => spilelaw46_awake.f) true := Ev.now _
  have yes : ∀ t, t = true → Ev (fun k => spilelaw46_TariffNear.j0 k c d a t R l) true := fun t ht => Ev.step (fun k => spilelaw46_TariffNear.j0.eq_2 ..) (evp ht (evb haw (Ev.now _)))
  refine evb haw (evp rfl (evb (evc (fun _ => rfl) hq) ?_))
  cases q with
  | false => exact yes _ rfl
  | true => exact near_ev R l (hq2 rfl) c d a
end Go.Proofs.YtholbmidciapdaaGreatDoor.Pure
namespace Go.Proofs.YtholbmidciapdaaGreatDoor.X
open Go
variable {H : Type} {enc : TypeId × Value → H}
theorem wrap_shaped {a : Assume} {C : Checked} {os : Os} {f : FuncId} {fn : Func} {s : ChangeSpec} {conds : List PathCond} {apart fresh handsOn again : Bool} {X : World → Array Value → Prop}
    (hX : ∀ (w w' : World) (args : Array Value), w.heap = w'.heap → X w args → X w' args)
    (own : ownKnob C.prog.godebug = none) (started : os.Started) (noInit : C.prog.inits.idxOf? f = none) (hfn : C.prog.funcs[f]? = some fn)
    (witness : ∃ (w : World) (tape : Tape) (i : Input), w.os = os ∧ (w.forCall tape i).Shaped C.prog ∧ i.vars = [] ∧ Input.okWide C.prog (w.forCall tape i) .any w.heap.size f i ∧
      ((s.pre enc C.prog fn conds apart (w.forCall tape i).memory i.args ∧ X (w.forCall tape i).memory i.args) ∧ sizedMet enc C.prog fn (OpenSpec.ofChange s) apart (w.forCall tape i).memory i.args) ∧ a.holds C.prog (lone (Frame.enter C.prog f i.args .normal) [] (w.forCall tape i)))
    (walk : ∀ (W : World) (base : Nat) (args : Array Value) (ds gs : List (DataW H)) (before : List MemPlace),
      (∀ (j : Nat) t v, fn.params[j]? = some t → args[j]? = some v → Value.okWide C.prog W .any base t v) →
      DataW.Whole enc C.prog fn.params.toList s.vars apart W args.toList ds gs before → X W args → W.ShapedOpen C.prog →
      Calls C.prog f args W fun e W' => ∃ v, e = .returned v ∧ s.post enc C.prog fn apart fresh handsOn again W args v W') :
    ReturnsInHanded a C os f .any (fun w args => (s.pre enc C.prog fn conds apart w args ∧ X w args) ∧ sizedMet enc C.prog fn (OpenSpec.ofChange s) apart w args) (s.post enc C.prog fn apart fresh handsOn again) := by
  refine returnsInHanded_of_calls own started noInit witness ?_
  intro w tape i _ hsh _ hok hpre _
  obtain ⟨_, _, _, fn', hfn', _, _, _, _, hval⟩ := hok
  obtain rfl : fn' = fn := Option.some.inj (hfn'.symm.trans hfn)
  obtain ⟨⟨⟨ds, gs, before, hw, _⟩, hx⟩, _⟩ := hpre
  refine (walk (w.forCall tape i) w.heap.size i.args ds gs before hval (DataW.Whole.of_heap (w' := w.forCall tape i) (by rfl) hw) (hX _ _ _ (by rfl) hx) hsh).mono fun e W' ⟨v, he, hp⟩ => ?_
  subst he
  exact ChangeSpec.post_blind hp
end Go.Proofs.YtholbmidciapdaaGreatDoor.X
namespace Go.Proofs.YtholbmidciapdaaGreatDoor.tariffNear
open Go Go.ChangeShapes Go.WideShapes Go.ChangeAt Go.RowKit
open Go.ChangeMaps (open_string shut_string)
open Go.Proofs.YtholbmidciapdaaGreatDoorW.PrintWords Go.Proofs.YtholbmidciapdaaGreatDoor.O Go.Proofs.YtholbmidciapdaaGreatDoor.Opn Go.Proofs.YtholbmidciapdaaGreatDoor.Pr Go.Proofs.YtholbmidciapdaaGreatDoor.X
theorem own : ownKnob Tryz.prog.godebug = none := by kernel_rfl
theorem laidOut : laidOutB Tryz.prog = true := by kernel_rfl
abbrev laidL : List (String × DataW Unit) := [("math/bits.deBruijn32tab", Rows.laid_math_bits_deBruijn32tab), ("math/bits.deBruijn64tab", Rows.laid_math_bits_deBruijn64tab), ("internal/strconv.uint64pow10", Rows.laid_internal_strconv_uint64pow10), ("unicode/utf8.acceptRanges", Rows.laid_unicode_utf8_acceptRanges), ("strconv.ErrRange", Rows.laid_strconv_ErrRange), ("strconv.ErrSyntax", Rows.laid_strconv_ErrSyntax), ("spile/tariff.words", Rows.laid_spile_tariff_words), ("unicode/utf8.first", Rows.laid_unicode_utf8_first)]
set_option maxRecDepth 100000 in
theorem lifted (os : Os) (started : os.Started) (H : Type) (enc : TypeId × Value → H) :
    ReturnsInHanded {} Tryz.checked os 10 .any (fun w args => (Rows.tariffNearSpec.pre enc Tryz.prog Tryz.f10 [] false w args ∧ laidMetH Tryz.prog laidL w) ∧ sizedMet enc Tryz.prog Tryz.f10 (OpenSpec.ofChange Rows.tariffNearSpec) false w args)
      (Rows.tariffNearSpec.post enc Tryz.prog Tryz.f10 false true false false) := by
  refine wrap_shaped (C := Tryz.checked) (X := (fun w _ => laidMetH Tryz.prog laidL w)) (fun _ _ _ hh h => h.of_heap hh) own started (by kernel_rfl) Tryz.func10
    (ChangeSpec.witness_shaped (enc := enc) (C := Tryz.checked) (os := os) (X := (fun w _ => laidMetH Tryz.prog laidL w)) false (World.laidAll Tryz.prog os laidL) #[.agg #[.int .i64 0, .slice none 0 0], .int .i64 0, .int .i64 0, .int .i64 0] 8 (World.laidAll_os _ _ _) (World.shaped_of_ZipB (by kernel_rfl) (by kernel_rfl)) (by kernel_rfl) (by kernel_rfl) (by kernel_rfl) (by rw [MakeChecks.laidMetH_plain _ _ _ (by kernel_rfl)]; exact laidMet_laidAll _ (by kernel_rfl) (by kernel_rfl))) ?_
  intro W base args ds gs before hval0 hW hL hsh
  have hval : ∀ (j : Nat) t v, Tryz.f10.params[j]? = some t → args[j]? = some v → Value.okWide Tryz.prog W .any base t v := hval0
  have hW' := hW
  obtain ⟨p, q, hA0, hV, rfl, hfz, hnd⟩ := hW
  have hA : DataW.TrodAll enc Tryz.prog W 0 (fun _ => true) true Tryz.f10.params.toList args.toList ds p := hA0
  rw [Tryz.params10] at hA hval
  obtain ⟨v0, vs0, d0, ds0, p0, q0, hargs, rfl, rfl, h0, r0⟩ := trodAll_cons hA
  obtain ⟨v1, vs1, d1, ds1, p1, q1, rfl, rfl, rfl, h1, r1⟩ := trodAll_cons r0
  obtain ⟨v2, vs2, d2, ds2, p2, q2, rfl, rfl, rfl, h2, r2⟩ := trodAll_cons r1
  obtain ⟨v3, vs3, d3, ds3, p3, q3, rfl, rfl, rfl, h3, r3⟩ := trodAll_cons r2
  obtain ⟨rfl, rfl, rfl⟩ := trodAll_nil r3
  obtain rfl : args = #[v0, v1, v2, v3] := by cases args; simp_all
  obtain ⟨rfl, rfl⟩ := trodVars_none hV
  obtain ⟨cs0, rfl, _⟩ := okWide_struct Tryz.underlying24 (hval 0 24 v0 rfl rfl)
  have k0 := h0
  have lt0 : ∀ x ∈ p0, x.block < W.heap.size := by obtain ⟨m, hm⟩ := k0; exact DataW.trod_lt m _ _ _ hm
  obtain ⟨x0, K0, ok0⟩ : ∃ x, k24.K W x cs0.toList ∧ ok24 x := by
    obtain ⟨fuel, hf⟩ := h0
    exact opens24.2 _ _ _ _ _ _ _ _ _ hf
  obtain ⟨A0_1, c0_1, e0, g0_1, hr0_1⟩ := k24_open K0
  obtain rfl : cs0 = #[.int .i64 (x0.f0), .slice A0_1 (x0.f1).length c0_1] := by cases cs0; simpa using e0
  obtain ⟨a1, rfl, rfl, rfl, w1⟩ := open_int Tryz.underlying3 (hval 1 3 v1 rfl rfl) h1
  obtain ⟨a2, rfl, rfl, rfl, w2⟩ := open_int Tryz.underlying3 (hval 2 3 v2 rfl rfl) h2
  obtain ⟨a3, rfl, rfl, rfl, w3⟩ := open_int Tryz.underlying3 (hval 3 3 v3 rfl rfl) h3
  clear hA0 hval0
  obtain ⟨k, hp⟩ := Pure.TariffNear (x0.f0) (x0.f1) a1 a2 a3 ok0.1 ok0.2 w1 w2 w3
  have hG : GI W := GI.of_laid laidL (by simp [laidL]) (by simp [laidL]) (by simp [laidL]) (by simp [laidL]) hL hsh
  refine (spilelaw46_TariffNear.calls k (x0.f0) _ _ (x0.f1) a1 a2 a3 true W hr0_1 g0_1 hG rfl hp).mono fun e W' ⟨he, bel⟩ => ?_
  subst he
  exact ⟨_, rfl, _, _, _, [], _, [], hW', trodAll_mk1 (shut_bool Tryz.underlying4 _), (trodAll_cons_mk (Below.trod laidOut (by kernel_rfl) (of_decide_eq_true (by kernel_rfl)) k0 bel lt0) (trodAll_cons_mk (shut_int Tryz.underlying3 w1) (trodAll_cons_mk (shut_int Tryz.underlying3 w2) (trodAll_cons_mk (shut_int Tryz.underlying3 w3) trodAll_mk0)))), rfl, bel.frame _, fun h => by cases h⟩
theorem holds : Rows.TariffNearSaid :=
  OpenClaim.holds_of_wide 10 Tryz.f10 rfl rfl rfl rfl rfl rfl rfl ⟨rfl, rfl, rfl, rfl, rfl⟩ rfl rfl rfl rfl rfl (by kernel_rfl) Tryz.func10 (by kernel_rfl)
    (of_decide_eq_true (by kernel_rfl)) (by unfold Func.isWrapper; first | (rw [if_pos (by decide +kernel)]; kernel_rfl) | (rw [if_neg (by decide +kernel)]; exact ⟨rfl, rfl⟩))
    (fun os started H enc _ => lifted os started H enc)
theorem card : Rows.TariffNearCardSaid :=
  Claim7.holds_tied_plain_at .later [] [.data, .data, .data, .data, .sentinel, .sentinel, .widerDeep, .pinned] true (true, "e915a9bdfe9e1389aaf186e88c341004cfdabf0ce269b5d3aa2c8944f7f7b486") true
    holds (fun _ h => by cases h) (by kernel_rfl) (fun _ h => by cases h) tariffNear_row_tie rfl ⟨rfl, rfl⟩ (by kernel_rfl) rfl
    (fun f fn hf hfn => by
      obtain rfl : f = 10 := Option.some.inj ((show Tryz.prog.funcNamed "spile/spilelaw46.TariffNear" = some 10 by kernel_rfl).symm.trans hf) |>.symm
      obtain rfl : fn = Tryz.f10 := (Option.some.inj (Tryz.func10.symm.trans hfn)).symm
      exact ⟨by kernel_rfl, fun j t ht => by
        rw [Tryz.params10] at ht
        have hm : t ∈ [24, 3, 3, 3] := by simpa using Array.mem_of_getElem? ht
        have hall : ([24, 3, 3, 3].all fun u => !Tryz.prog.wantsStandIn u) = true := by kernel_rfl
        exact (show Tryz.prog.wantsStandIn t = false by simpa using List.all_eq_true.1 hall t hm)⟩)
    (by kernel_rfl)
end Go.Proofs.YtholbmidciapdaaGreatDoor.tariffNear
namespace Go.Proofs.YtholbmidciapdaaGreatDoor
/-- The card, under a short name, for the claim. -/
theorem tariffNear_holds : Rows.TariffNearCardSaid := tariffNear.card
#print axioms tariffNear_holds
end Go.Proofs.YtholbmidciapdaaGreatDoor
