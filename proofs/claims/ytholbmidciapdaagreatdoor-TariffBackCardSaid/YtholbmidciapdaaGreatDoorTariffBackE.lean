/-
A part of what these laws rest on: contracts of the functions that they reach, and plain lemmas.
-/
import Derived.Test.YtholbmidciapdaaGreatDoorTariffBackD
set_option linter.unusedVariables false
set_option linter.unusedSimpArgs false
namespace Go.Proofs.YtholbmidciapdaaGreatDoor.Pr
open Go.RowKit Go.Proofs.YtholbmidciapdaaGreatDoorW.PrintWords Go.Proofs.YtholbmidciapdaaGreatDoorW.PrintLast Go.Proofs.YtholbmidciapdaaGreatDoorW.PrintMore Go.Proofs.YtholbmidciapdaaGreatDoor.X
attribute [local go_sem] max2_int min2_int max_two min_two max_three min_three max_four min_four   -- for this text's walks alone
set_option linter.unusedVariables false
set_option linter.unusedSimpArgs false
def tariff_Parse.wordsB : List ByteArray := wordsL.map fun z => ⟨z.toArray⟩
def tariff_Parse.word (k : Nat) (x : ByteArray × Bool) : Option (Option Int) := (strings_CutPrefix.f x.1 ⟨#[114, 111, 117, 110, 100, 105, 110, 103, 32]⟩).bind fun c => (slices_Index_string_string.f k tariff_Parse.wordsB c.1).bind fun r => if c.2 = true ∧ 1 ≤ r ∧ x.2 = true then some (some r) else some none
def tariff_Parse.rate (k : Nat) (x : ByteArray × Bool) : Option (Option S26) := (tariff_rate.f k x.1).bind fun c => if c.2.2.2 = true ∧ x.2 = true then some (some ⟨c.1, c.2.1, c.2.2.1⟩) else some none
def tariff_Parse.go (k : Nat) : List (ByteArray × Bool) → Nat → Int → List S26 → Option (Int × List S26 × Int × Int)
 | [], n, R, acc => if n = 0 then some (0, [], 0, 3) else (tariff_right.f k R acc).bind fun c => if c = true then some (R, acc, -1, 0) else some (0, [], -1, 1)
 | x :: r, n, R, acc => if n < 4294967296 ∧ acc.length < 4294967296 then (if n = 0 then (tariff_Parse.word k x).bind fun y => match y with
   | none => some (0, [], 0, 3)
   | some R' => tariff_Parse.go k r 1 R' acc
  else (tariff_Parse.rate k x).bind fun y => match y with
   | none => some (0, [], (n : Int), 3)
   | some g => tariff_Parse.go k r (n + 1) R (acc ++ [g])) else none
def tariff_Parse.f (k : Nat) (a0 : ByteArray) : Option (Int × List S26 × Int × Int) := if (a0.size : Int) > 4096 then some (0, [], -1, 8) else tariff_Parse.go k (lns a0) 0 0 []
section
attribute [local go_sem] Oper.semAt_some
/-- The five boxes: the result's three, the tariff, the line's number. -/
def tariff_Parse.Five (b : Nat) (W : World) (n R : Int) (v : Value) : Prop :=
 W.heap[b]? = some (.cells #[.int .i64 0, .slice none 0 0] 24 (0, 0)) ∧ W.heap[b + 1]? = some (.cells #[.int .i64 0] 3 (0, 0)) ∧ W.heap[b + 2]? = some (.cells #[.int .i64 0] 29 (0, 0)) ∧
 W.heap[b + 3]? = some (.cells #[.int .i64 R, v] 24 (0, 0)) ∧ W.heap[b + 4]? = some (.cells #[.int .i64 n] 3 (0, 0))
theorem tariff_Parse.Five.move {b : Nat} {W W' : World} {n R : Int} {v : Value} (h : tariff_Parse.Five b W n R v) (hm : ∀ k, k < b + 5 → b ≤ k → k < W.heap.size → W'.heap[k]? = W.heap[k]?) : tariff_Parse.Five b W' n R v := by
 obtain ⟨h0, h1, h2, h3, h4⟩ := h
 exact ⟨(hm _ (by omega) (by omega) (blk_lt h0)).trans h0, (hm _ (by omega) (by omega) (blk_lt h1)).trans h1, (hm _ (by omega) (by omega) (blk_lt h2)).trans h2, (hm _ (by omega) (by omega) (blk_lt h3)).trans h3, (hm _ (by omega) (by omega) (blk_lt h4)).trans h4⟩
theorem tariff_Parse.Five.below {b : Nat} {W W' : World} {n R : Int} {v : Value} (h : tariff_Parse.Five b W n R v) (hb : Below W.heap.size W W') : tariff_Parse.Five b W' n R v := h.move (fun k _ _ hk => hb.block k hk)
theorem tariff_Parse.Five.grown {b : Nat} {W W' : World} {n R : Int} {v : Value} {row : Option Nat} (h : tariff_Parse.Five b W n R v) (hg : W.grownBy W' row) (hr : ∀ k, row = some k → k < b ∨ b + 5 ≤ k) : tariff_Parse.Five b W' n R v :=
 h.move (fun k h1 h2 hk => hg.block k hk (fun e => by have := hr k e.symm; omega))
/-- What a return leaves in the result's three boxes. -/
def tariff_Parse.Three (b : Nat) (W : World) (R : Int) (v : Value) (c e : Int) : Prop :=
 W.heap[b]? = some (.cells #[.int .i64 R, v] 24 (0, 0)) ∧ W.heap[b + 1]? = some (.cells #[.int .i64 c] 3 (0, 0)) ∧ W.heap[b + 2]? = some (.cells #[.int .i64 e] 29 (0, 0))
theorem tariff_Parse.Three.move {b : Nat} {W W' : World} {c R e : Int} {v : Value} (h : tariff_Parse.Three b W R v c e) (hm : ∀ k, k < b + 5 → b ≤ k → k < W.heap.size → W'.heap[k]? = W.heap[k]?) : tariff_Parse.Three b W' R v c e := by
 obtain ⟨h0, h1, h2⟩ := h
 exact ⟨(hm _ (by omega) (by omega) (blk_lt h0)).trans h0, (hm _ (by omega) (by omega) (blk_lt h1)).trans h1, (hm _ (by omega) (by omega) (blk_lt h2)).trans h2⟩
theorem tariff_Parse.Three.grown {b : Nat} {W W' : World} {c R e : Int} {v : Value} {row : Option Nat} (h : tariff_Parse.Three b W R v c e) (hg : W.grownBy W' row) (hr : ∀ k, row = some k → k < b ∨ b + 5 ≤ k) : tariff_Parse.Three b W' R v c e :=
 h.move (fun k h1 h2 hk => hg.block k hk (fun e => by have := hr k e.symm; omega))
/-- The three boxes after the stores of a return. -/
theorem tariff_Parse.Five.put {b : Nat} {W : World} {n R : Int} {v : Value} (h : tariff_Parse.Five b W n R v) (R' : Int) (v' : Value) (c e : Int) :
  tariff_Parse.Three b ((((W.setCell ⟨b, 0, none⟩ (.int .i64 R')).setCell ⟨b, 1, none⟩ v').setCell ⟨b + 1, 0, none⟩ (.int .i64 c)).setCell ⟨b + 1 + 1, 0, none⟩ (.int .i64 e)) R' v' c e := by
 obtain ⟨h0, h1, h2, h3, h4⟩ := h
 refine ⟨?_, ?_, ?_⟩
 ·
  exact blk_far (blk_far (blk_put (cs := #[.int .i64 R', .slice none 0 0]) (blk_put h0 0 _ rfl) 1 _ rfl) (by show b ≠ b + 1; omega) _) (by show b ≠ b + 1 + 1; omega) _
 ·
  exact blk_far (blk_put (blk_far (blk_far h1 (by show b + 1 ≠ b; omega) _) (by show b + 1 ≠ b; omega) _) 0 _ rfl) (by show b + 1 ≠ b + 1 + 1; omega) _
 ·
  exact blk_put (blk_far (blk_far (blk_far h2 (by show b + 2 ≠ b; omega) _) (by show b + 2 ≠ b; omega) _) (by show b + 2 ≠ b + 1; omega) _) 0 _ rfl
theorem tariff_Parse.put_far {b k : Nat} {W : World} (R' : Int) (v' : Value) (c e : Int) (hk : k < b ∨ b + 3 ≤ k) :
  ((((W.setCell ⟨b, 0, none⟩ (.int .i64 R')).setCell ⟨b, 1, none⟩ v').setCell ⟨b + 1, 0, none⟩ (.int .i64 c)).setCell ⟨b + 1 + 1, 0, none⟩ (.int .i64 e)).heap[k]? = W.heap[k]? :=
 (Below.heap_setCell _ _ _ k (by show k ≠ b + 1 + 1; omega)).trans ((Below.heap_setCell _ _ _ k (by show k ≠ b + 1; omega)).trans ((Below.heap_setCell _ _ _ k (by show k ≠ b; omega)).trans (Below.heap_setCell _ _ _ k (by show k ≠ b; omega))))
theorem tariff_Parse.put_below {b : Nat} {w W : World} (R' : Int) (v' : Value) (c e : Int) (hb : w.heap.size = b) (h : Below b w W) :
  Below b w ((((W.setCell ⟨b, 0, none⟩ (.int .i64 R')).setCell ⟨b, 1, none⟩ v').setCell ⟨b + 1, 0, none⟩ (.int .i64 c)).setCell ⟨b + 1 + 1, 0, none⟩ (.int .i64 e)) :=
 (((h.setCell (p := ⟨b, 0, none⟩) (Nat.le_refl _) _).setCell (p := ⟨b, 1, none⟩) (Nat.le_refl _) _).setCell (p := ⟨b + 1, 0, none⟩) (by show b ≤ b + 1; omega) _).setCell (p := ⟨b + 1 + 1, 0, none⟩) (by show b ≤ b + 1 + 1; omega) _
/-- What stands between two rounds. -/
def tariff_Parse.I (k : Nat) (a0 : ByteArray) (r : Int × List S26 × Int × Int) (w : World) (pre : List (ByteArray × Bool)) (W : World) : Prop :=
 ∃ (n : Nat) (R : Int) (acc : List S26) (v : Value) (rest : List (ByteArray × Bool)), lns a0 = pre ++ rest ∧ tariff_Parse.go k rest n R acc = some r ∧ tariff_Parse.Five w.heap.size W (n : Int) R v ∧
  W.ownsRow (w.heap.size + 6) 26 3 v acc.length (flat26 acc) ∧ Below w.heap.size w W ∧ w.heap.size + 6 ≤ W.heap.size
def tariff_Parse.Ix (r : Int × List S26 × Int × Int) (w : World) (pre : List (ByteArray × Bool)) (W : World) : Prop :=
 r.1 = 0 ∧ r.2.1 = [] ∧ tariff_Parse.Three w.heap.size W 0 (.slice none 0 0) r.2.2.1 r.2.2.2 ∧ Below w.heap.size w W
theorem own_turn {W W' : World} {row : Option Nat} {bt B : Nat} {v : Value} {n : Nat} {xs : List Value} (h : W.ownsRow B 26 3 v n xs) (hg : W.grownBy W' row) (hr : ∀ r, row = some r → r = bt ∨ (B ≤ r ∧ ∃ o : Obj, W.heap[r]? = some o ∧ o.isCells = false)) (h1 : bt < B) : W'.ownsRow B 26 3 v n xs := by
 refine own_other h hg ?_
 rcases h.2 with ⟨rfl, _⟩ | ⟨g, cap, cur, rfl, hb, hh, _⟩
 ·
  exact .inl rfl
 ·
  refine .inr fun e => ?_
  rcases hr g e.symm with h3 | ⟨_, o, ho, hc⟩
  ·
   omega
  ·
   rw [hh] at ho; cases ho; cases hc
theorem keeps_below {B : Nat} {W W1 : World} (h : Below W.heap.size W W1) : KeepsFrom B W W1 := ⟨h.size, fun i o _ hi _ => (h.block i (Array.getElem?_eq_some_iff.1 hi).1).trans hi⟩
theorem keeps_low {B : Nat} {W W1 : World} (hs : W.heap.size ≤ W1.heap.size) (h : ∀ k, B ≤ k → k < W.heap.size → W1.heap[k]? = W.heap[k]?) : KeepsFrom B W W1 := ⟨hs, fun i o hk hi _ => (h i hk (Array.getElem?_eq_some_iff.1 hi).1).trans hi⟩
theorem tariff_Parse.failed {w W : World} {B : Nat} {n R : Int} {v : Value} (c : Int) (xs : List (ByteArray × Bool)) (hB : Below w.heap.size w W) (hBw : w.heap.size + 6 ≤ B) (y : tariff_Parse.Five w.heap.size W n R v) :
  KeepsFrom B W ((((W.setCell ⟨w.heap.size, 0, none⟩ (.int .i64 0)).setCell ⟨w.heap.size, 1, none⟩ (.slice none 0 0)).setCell ⟨w.heap.size + 1, 0, none⟩ (.int .i64 c)).setCell ⟨w.heap.size + 1 + 1, 0, none⟩ (.int .i64 3)) ∧
  tariff_Parse.Ix (0, [], c, 3) w xs ((((W.setCell ⟨w.heap.size, 0, none⟩ (.int .i64 0)).setCell ⟨w.heap.size, 1, none⟩ (.slice none 0 0)).setCell ⟨w.heap.size + 1, 0, none⟩ (.int .i64 c)).setCell ⟨w.heap.size + 1 + 1, 0, none⟩ (.int .i64 3)) :=
 ⟨keeps_low (by simp) (fun k hk _ => tariff_Parse.put_far 0 _ c 3 (by omega)), rfl, rfl, y.put 0 _ c 3, tariff_Parse.put_below 0 _ c 3 rfl hB⟩
theorem tariff_Parse.failedD {w W : World} {B : Nat} {n R : Int} {v : Value} (c : Int) (xs : List (ByteArray × Bool)) (hB : Below w.heap.size w W) (hBw : w.heap.size + 6 ≤ B) (y : tariff_Parse.Five w.heap.size W n R v) :
  KeepsFrom B W (((((W.setCell ⟨w.heap.size, 0, none⟩ (.int .i64 0)).setCell ⟨w.heap.size, 1, none⟩ (.slice none 0 0)).setCell ⟨w.heap.size + 1, 0, none⟩ (.int .i64 c)).setCell ⟨w.heap.size + 1 + 1, 0, none⟩ (.int .i64 3)).drew) ∧
  tariff_Parse.Ix (0, [], c, 3) w xs (((((W.setCell ⟨w.heap.size, 0, none⟩ (.int .i64 0)).setCell ⟨w.heap.size, 1, none⟩ (.slice none 0 0)).setCell ⟨w.heap.size + 1, 0, none⟩ (.int .i64 c)).setCell ⟨w.heap.size + 1 + 1, 0, none⟩ (.int .i64 3)).drew) := ⟨⟨(tariff_Parse.failed c xs hB hBw y).1.1, (tariff_Parse.failed c xs hB hBw y).1.2⟩, rfl, rfl, (tariff_Parse.failed c xs hB hBw y).2.2.2.1, (tariff_Parse.failed c xs hB hBw y).2.2.2.2.drew⟩
theorem flat26_snoc (acc : List S26) (g : S26) : flat26 (acc ++ [g]) = flat26 acc ++ [.int .i64 g.f0, .int .i64 g.f1, .int .i64 g.f2] := by simp [flat26]
theorem tariff_Parse.went {k : Nat} {a0 : ByteArray} {r : Int × List S26 × Int × Int} {w W w3 w4 : World} {B n : Nat} {R : Int} {acc : List S26} {v v' : Value} {g : S26} {pre more : List (ByteArray × Bool)} {x : ByteArray × Bool}
  (hl : lns a0 = (pre ++ [x]) ++ more) (hq : tariff_Parse.go k more (n + 1) R (acc ++ [g]) = some r) (hB : Below w.heap.size w W) (h3 : Below W.heap.size W w3) (hBw : w.heap.size + 6 ≤ B)
  (y : tariff_Parse.Five w.heap.size W (n : Int) R v) (ho : W.ownsRow (w.heap.size + 6) 26 3 v acc.length (flat26 acc)) (hbt : w.heap.size + 6 ≤ W.heap.size)
  (hown' : w4.ownsRow (w.heap.size + 6) 26 3 v' (acc.length + 1) (flat26 acc ++ [.int .i64 g.f0, .int .i64 g.f1, .int .i64 g.f2])) (hgrow : w3.grownBy w4 v.ownBlock) :
  KeepsFrom B W ((w4.setCell ⟨w.heap.size + 1 + 1 + 1, 1, none⟩ v').setCell ⟨w.heap.size + 1 + 1 + 1 + 1, 0, none⟩ (.int .i64 ((n : Int) + 1))) ∧
  ((w4.setCell ⟨w.heap.size + 1 + 1 + 1, 1, none⟩ v').setCell ⟨w.heap.size + 1 + 1 + 1 + 1, 0, none⟩ (.int .i64 ((n : Int) + 1))).heap[w.heap.size + 5]? = W.heap[w.heap.size + 5]? ∧
  tariff_Parse.I k a0 r w (pre ++ [x]) ((w4.setCell ⟨w.heap.size + 1 + 1 + 1, 1, none⟩ v').setCell ⟨w.heap.size + 1 + 1 + 1 + 1, 0, none⟩ (.int .i64 ((n : Int) + 1))) := by
 have ho3 := pw_own_below ho h3
 have hrow : ∀ j, v.ownBlock = some j → w.heap.size + 6 ≤ j := fun j e => own_base ho3 j e
 have y4 : tariff_Parse.Five w.heap.size w4 (n : Int) R v := (y.below h3).grown hgrow (fun j e => by have := hrow j e; omega)
 have hw3 : Below w.heap.size w w3 := below_step hB h3
 have hw4 : Below w.heap.size w w4 := hw3.grown hgrow hw3.size (fun j e => by have := hrow j e; omega)
 have far : ∀ j, j ≠ w.heap.size + 3 → j ≠ w.heap.size + 4 → ((w4.setCell ⟨w.heap.size + 1 + 1 + 1, 1, none⟩ v').setCell ⟨w.heap.size + 1 + 1 + 1 + 1, 0, none⟩ (.int .i64 ((n : Int) + 1))).heap[j]? = w4.heap[j]? := fun j h1 h2 =>
  (Below.heap_setCell _ _ _ j (by show j ≠ w.heap.size + 1 + 1 + 1 + 1; omega)).trans (Below.heap_setCell _ _ _ j (by show j ≠ w.heap.size + 1 + 1 + 1; omega))
 have no' : ∀ b, b < w.heap.size + 6 → some b ≠ v'.ownBlock := fun b hb e => by have := own_base hown' b e.symm; omega
 obtain ⟨z0, z1, z2, z3, z4⟩ := y4
 refine ⟨⟨?_, fun i o hk hi hc => ?_⟩, ?_, n + 1, R, acc ++ [g], v', more, hl, hq, ⟨?_, ?_, ?_, ?_, ?_⟩, ?_, ?_, ?_⟩
 ·
  have e1 := h3.size
  have e2 := hgrow.size
  simpa using Nat.le_trans e1 e2
 ·
  have hi3 := (h3.block i (blk_lt hi)).trans hi
  refine (far i (by omega) (by omega)).trans ((hgrow.block i (blk_lt hi3) (fun e => ?_)).trans hi3)
  obtain ⟨cells, hcells⟩ := own_typed ho3 i e.symm
  rw [hi3] at hcells
  cases hcells
  cases hc
 ·
  have h5 : w.heap.size + 5 < w3.heap.size := Nat.lt_of_lt_of_le (by omega) h3.size
  refine (far _ (by omega) (by omega)).trans ((hgrow.block _ h5 (fun e => ?_)).trans (h3.block _ (by omega)))
  have := hrow _ e.symm
  omega
 ·
  exact (far _ (by omega) (by omega)).trans z0
 ·
  exact (far _ (by omega) (by omega)).trans z1
 ·
  exact (far _ (by omega) (by omega)).trans z2
 ·
  exact blk_far (blk_put z3 1 _ rfl) (by show w.heap.size + 3 ≠ w.heap.size + 1 + 1 + 1 + 1; omega) _
 ·
  exact blk_put (blk_far z4 (by show w.heap.size + 4 ≠ w.heap.size + 1 + 1 + 1; omega) _) 0 _ rfl
 ·
  rw [flat26_snoc, List.length_append]
  exact own_setCell (own_setCell hown' (no' _ (by show w.heap.size + 1 + 1 + 1 < _; omega)) _) (no' _ (by show w.heap.size + 1 + 1 + 1 + 1 < _; omega)) _
 ·
  exact (hw4.setCell (p := ⟨w.heap.size + 1 + 1 + 1, 1, none⟩) (by show w.heap.size ≤ w.heap.size + 1 + 1 + 1; omega) _).setCell (p := ⟨w.heap.size + 1 + 1 + 1 + 1, 0, none⟩) (by show w.heap.size ≤ w.heap.size + 1 + 1 + 1 + 1; omega) _
 ·
  have e1 := h3.size
  have e2 := hgrow.size
  have : w.heap.size + 6 ≤ w4.heap.size := by omega
  simpa using this
theorem words_C {w : World} (h : Words w) : Kd.C Kd.string w (some ⟨0, 0, none⟩) tariff_Parse.wordsB.length tariff_Parse.wordsB := by
 refine ⟨rfl, by decide, fun _ => ⟨_, rfl, fun j p hp => ⟨[.string p], rfl, rfl, fun i u hu => ?_⟩⟩⟩
 unfold tariff_Parse.wordsB at hp
 rw [List.getElem?_map] at hp
 obtain ⟨z, hz, rfl⟩ := Option.map_eq_some_iff.1 hp
 have hc := h.cell j z hz
 cases i with
 | zero =>
  obtain rfl : Value.string ⟨z.toArray⟩ = u := by simpa using hu
  rw [Addr.add_lit, Nat.zero_add, Nat.add_zero]
  show w.cell? ⟨0, j * 1, none⟩ = _
  rw [Nat.mul_one]
  exact hc
 | succ i => simp at hu
theorem three_cells (w : World) (a b c : Value) (t : TypeId) : ∀ (j : Nat) (u : Value), [a, b, c][j]? = some u → (w.alloc (.cells #[a, b, c] t)).cell? ((⟨w.heap.size, 0, none⟩ : Addr).add j) = some u := by
 intro j u hj
 rw [Addr.add_lit, Nat.zero_add, World.cell?_alloc_at (w := w) _ _ w.heap.size j rfl]
 simpa using hj
theorem tariff_Parse.results_three {b : Nat} {W : World} {tmps : Array Value} {R c e : Int} {v : Value} (t2 : tmps.getD 2 undef = .pointer (some ⟨b, 0, none⟩)) (t3 : tmps.getD 3 undef = .pointer (some ⟨b + 1, 0, none⟩)) (t4 : tmps.getD 4 undef = .pointer (some ⟨b + 1 + 1, 0, none⟩))
  (h : tariff_Parse.Three b W R v c e) : (results Tryz.f30 tmps).run Tryz.prog W = .ok (.tuple #[.agg #[.int .i64 R, v], .int .i64 c, .int .i64 e]) W := by
 have a3 : ∀ W : World, (isAgg 3).run Tryz.prog W = .ok false W := fun W => by kernel_rfl
 have a29 : ∀ W : World, (isAgg 29).run Tryz.prog W = .ok false W := fun W => by kernel_rfl
 obtain ⟨h0, h1, h2⟩ := h
 have c2 : W.cell? ⟨b + 1, 0, none⟩ = some (.int .i64 c) := (blk_cell h1 0).trans rfl
 have c3 : W.cell? ⟨b + 1 + 1, 0, none⟩ = some (.int .i64 e) := (blk_cell h2 0).trans rfl
 have h1' : tmps[2]?.getD undef = .pointer (some ⟨b, 0, none⟩) := by simpa using t2
 have h2' : tmps[3]?.getD undef = .pointer (some ⟨b + 1, 0, none⟩) := by simpa using t3
 have h3' : tmps[4]?.getD undef = .pointer (some ⟨b + 1 + 1, 0, none⟩) := by simpa using t4
 have l0 := run_loadVar_row (P := Tryz.prog) W b 24 24 #[.int .i64 R, v] (0, 0) _ h0 Tryz.underlying24 rfl (by kernel_rfl)
 have l1 : (loadVar 3 ⟨b + 1, 0, none⟩).run Tryz.prog W = .ok (.int .i64 c) W := by simp [loadVar, a3, c2]
 have l2 : (loadVar 29 ⟨b + 1 + 1, 0, none⟩).run Tryz.prog W = .ok (.int .i64 e) W := by simp [loadVar, a29, c3]
 unfold results
 rw [show Tryz.f30.results = [ResultVar.cell 2 24, ResultVar.cell 3 3, ResultVar.cell 4 29].toArray from rfl, List.mapM_toArray]
 simp only [Sem.run_bind, Sem.run_map]
 simp [List.mapM_cons, h1', h2', h3', asAddr, l0, l1, l2]
theorem tariff_Parse.leave {n : Nat} {w W : World} {D : Nat} {v : Value} {R c e : Int} {tmps : Array Value} {xs : List S26} (hK : W.heap[D]? = some (.deferred (some []))) (hD : w.heap.size + 6 ≤ D)
  (y : tariff_Parse.Three w.heap.size W R v c e) (hB : Below w.heap.size w W) (hrow : W.ownsRow (w.heap.size + 6) 26 3 v xs.length (flat26 xs))
  (t2 : tmps.getD 2 undef = .pointer (some ⟨w.heap.size, 0, none⟩)) (t3 : tmps.getD 3 undef = .pointer (some ⟨w.heap.size + 1, 0, none⟩)) (t4 : tmps.getD 4 undef = .pointer (some ⟨w.heap.size + 1 + 1, 0, none⟩)) :
  LeavesInM Fence.wide n Tryz.prog Tryz.f30 tmps (fun e_ w' => ∃ v1_, e_ = .returned (.tuple #[.agg #[.int .i64 R, v1_], .int .i64 c, .int .i64 e]) ∧ Kd.R k26 26 w' w.heap.size (fun _ => True) v1_ xs ∧ Below w.heap.size w w') [{ target := .collected D, args := #[] }] .returning W := by
 have hg := grownBy_putObj' W D (.deferred none)
 refine ⟨by simp, .inl ⟨_, _, rfl, run_takeDeferred hK, ⟨_, tariff_Parse.results_three t2 t3 t4 (y.grown hg (fun k e => by cases e; omega)), v, rfl, own_R26 (own_weaken (ownsRow_putObj hrow _ hK rfl) (by omega)), ?_⟩⟩⟩
 exact hB.grown hg hB.size (fun k e => by cases e; omega)
set_option maxHeartbeats 8000000 in
set_option maxRecDepth 100000 in
theorem tariff_Parse.calls (k : Nat) (a0 : ByteArray) (r1 : Int) (r2 : List (S26)) (r3 : Int) (r4 : Int) (w : World) (hG : GI w) (h : tariff_Parse.f k a0 = some (r1, r2, r3, r4)) :
  Calls Tryz.prog 30 #[.string a0] w fun e w' => ∃ v1_ : Value, e = .returned (.tuple #[.agg #[.int .i64 r1, v1_], .int .i64 r3, .int .i64 r4]) ∧ Kd.R k26 26 w' w.heap.size (fun _ => True) v1_ r2 ∧ Below w.heap.size w w' := by
 have hu24 := Tryz.underlying24; have hu26 := Tryz.underlying26; have hu22 := Tryz.underlying22; unfold tariff_Parse.f at h; refine (callsIn_wide (n := 5)).1 ?_; refine callsIn_of_wp_marks Tryz.func30 rfl trivial ?_ rfl; simp only [Tryz.ntmps30, List.size_toArray, List.length_cons, List.length_nil, Nat.reduceAdd, Nat.reduceSub, Array.replicate_succ, Array.replicate_zero, List.push_toArray, List.append_toArray, List.nil_append, List.cons_append]; by_cases hbig : (a0.size : Int) > 4096
 ·
  rw [if_pos hbig] at h; cases h; gi_wp2
  refine ⟨_, tariff_Parse.results_three (b := w.heap.size) rfl rfl rfl ⟨blk_alloc (blk_alloc (blk_new w _) _) _, ?_, ?_⟩, ⟨_, rfl, Kd.R_nil _ _ _ _ _, below_alloc (below_alloc (below_alloc (Below.refl _ _) _) _) _⟩⟩
  · have := blk_alloc (blk_new (w.alloc (.cells #[.int .i64 0, .slice none 0 0] 24)) (.cells #[.int .i64 (-1)] 3)) (.cells #[.int .i64 8] 29); simpa only [World.size_alloc] using this
  · have := blk_new ((w.alloc (.cells #[.int .i64 0, .slice none 0 0] 24)).alloc (.cells #[.int .i64 (-1)] 3)) (.cells #[.int .i64 8] 29); simpa only [World.size_alloc] using this
 ·
  rw [if_neg hbig] at h; obtain ⟨W0, hW0⟩ : ∃ W0, W0 = (((((w.alloc (.cells #[.int .i64 0, .slice none 0 0] 24)).alloc (.cells #[.int .i64 0] 3)).alloc (.cells #[.int .i64 0] 29)).alloc (.cells #[.int .i64 0, .slice none 0 0] 24)).alloc (.cells #[.int .i64 0] 3)).alloc (.cells #[.string a0] 9) := ⟨_, rfl⟩; have hsz : W0.heap.size = w.heap.size + 6 := by rw [hW0]; simp [World.size_alloc]
  have hB0 : Below w.heap.size w W0 := by rw [hW0]; exact below_alloc (below_alloc (below_alloc (below_alloc (below_alloc (below_alloc (Below.refl _ _) _) _) _) _) _) _
  have x5 : Boxed W0 (w.heap.size + 5) 9 (.string a0) := by
   rw [hW0]; have := Boxed.new (((((w.alloc (.cells #[.int .i64 0, .slice none 0 0] 24)).alloc (.cells #[.int .i64 0] 3)).alloc (.cells #[.int .i64 0] 29)).alloc (.cells #[.int .i64 0, .slice none 0 0] 24)).alloc (.cells #[.int .i64 0] 3)) 9 (.string a0); simpa only [World.size_alloc] using this
  have x0 : tariff_Parse.Five w.heap.size W0 0 0 (.slice none 0 0) := by
   rw [hW0]; refine ⟨?_, ?_, ?_, ?_, ?_⟩
   · exact blk_alloc (blk_alloc (blk_alloc (blk_alloc (blk_alloc (blk_new _ _) _) _) _) _) _
   · have := blk_alloc (blk_alloc (blk_alloc (blk_alloc (blk_new (w.alloc (.cells #[.int .i64 0, .slice none 0 0] 24)) (.cells #[.int .i64 0] 3)) (.cells #[.int .i64 0] 29)) (.cells #[.int .i64 0, .slice none 0 0] 24)) (.cells #[.int .i64 0] 3)) (.cells #[.string a0] 9); simpa only [World.size_alloc] using this
   · have := blk_alloc (blk_alloc (blk_alloc (blk_new ((w.alloc (.cells #[.int .i64 0, .slice none 0 0] 24)).alloc (.cells #[.int .i64 0] 3)) (.cells #[.int .i64 0] 29)) (.cells #[.int .i64 0, .slice none 0 0] 24)) (.cells #[.int .i64 0] 3)) (.cells #[.string a0] 9); simpa only [World.size_alloc] using this
   · have := blk_alloc (blk_alloc (blk_new (((w.alloc (.cells #[.int .i64 0, .slice none 0 0] 24)).alloc (.cells #[.int .i64 0] 3)).alloc (.cells #[.int .i64 0] 29)) (.cells #[.int .i64 0, .slice none 0 0] 24)) (.cells #[.int .i64 0] 3)) (.cells #[.string a0] 9); simpa only [World.size_alloc] using this
   · have := blk_alloc (blk_new ((((w.alloc (.cells #[.int .i64 0, .slice none 0 0] 24)).alloc (.cells #[.int .i64 0] 3)).alloc (.cells #[.int .i64 0] 29)).alloc (.cells #[.int .i64 0, .slice none 0 0] 24)) (.cells #[.int .i64 0] 3)) (.cells #[.string a0] 9); simpa only [World.size_alloc] using this
  gi_wp2_with (refine ⟨trivial, ?_⟩; gi_at_call 57; refine (lines_calls a0 _).mono ?_; rintro e w' ⟨rfl, rfl⟩)
  have hseq := lines_box (w.heap.size + 5) a0 (by omega) W0 x5; try simp only [World.size_alloc]
  rw [← hW0]
  refine wpIn_rangeFunc_box (F := Fence.wide) (n := 5) (b := w.heap.size + 5) rfl (by decide) (gf := 70) (lb := #[.pointer (some ⟨w.heap.size + 5, 0, none⟩)]) rfl trivial (enters_of Tryz.func70 (by kernel_rfl) rfl) hseq (by omega) (Below.refl _ _) (fun _ => rfl)
   (tariff_Parse.I k a0 (r1, r2, r3, r4) w) (tariff_Parse.Ix (r1, r2, r3, r4) w) ?hIG ?hI ?hIx ?h0
   (fun x => { tmps := #[.string a0, undef, .pointer (some ⟨w.heap.size, 0, none⟩), .pointer (some ⟨w.heap.size + 1, 0, none⟩), .pointer (some ⟨w.heap.size + 1 + 1, 0, none⟩), .pointer (some ⟨w.heap.size + 1 + 1 + 1, 0, none⟩), .pointer (some ⟨w.heap.size + 1 + 1 + 1 + 1, 0, none⟩), .string x.1, .bool x.2, undef, undef, undef, undef, .string a0, .int .i64 (a0.size : Int), .bool false, undef, .string a0, .func (.func 70) #[] #[.pointer (some ⟨w.heap.size + 1 + 1 + 1 + 1 + 1, 0, none⟩)], .string x.1, .bool x.2, undef, undef, undef, undef, undef, undef, undef, undef, undef, undef, undef, undef, undef, undef, undef, undef, undef, undef, undef, undef, undef, undef, undef, undef, undef, undef, undef, undef, undef, undef, undef, undef, undef, undef, undef, undef, undef, undef, undef, undef, undef, undef, undef, undef, undef, undef, undef, undef, undef, undef, undef, undef, undef, undef], defers := [] }) ?assign ?body ?done ?stop
  case hIG =>
   rintro pre W ⟨_, _, _, _, _, _, _, _, _, hB, _⟩; exact GI.below hG hB
  case hI =>
   rintro s W W' row ⟨n, R, acc, v, rest, q1, q2, hy, ho, hB, hW5⟩ hg hr; rw [hsz] at hr; exact ⟨n, R, acc, v, rest, q1, q2, hy.grown hg (fun k e => by rcases hr k e with q | q <;> omega), own_turn ho hg hr (by omega), hB.grown hg hB.size (fun k e => by rcases hr k e with q | q <;> omega), Nat.le_trans hW5 hg.size⟩
  case hIx =>
   rintro s W W' row ⟨q1, q2, hy, hB⟩ hg hr; rw [hsz] at hr; exact ⟨q1, q2, hy.grown hg (fun k e => by rcases hr k e with q | q <;> omega), hB.grown hg hB.size (fun k e => by rcases hr k e with q | q <;> omega)⟩
  case h0 => exact ⟨0, 0, [], _, lns a0, rfl, h, x0, World.ownsRow_nil _ _ _ _, hB0, by omega⟩
  case assign =>
   intro l x W K hK; dsimp only [lencs]
   gi_wp2
   exact hK
  case body =>
   rintro l pre x W2 ⟨n, R, acc, v, rest, q1, q2, y, ho, hB, hW5⟩ hpre; obtain ⟨more, hmore⟩ := hpre
   have hrest : rest = x :: more := by
    rw [← hmore, List.append_assoc] at q1; exact (List.append_cancel_left q1).symm
   subst hrest; unfold tariff_Parse.go at q2; by_cases hacc : n < 4294967296 ∧ acc.length < 4294967296
   case neg => rw [if_neg hacc] at q2; cases q2
   rw [if_pos hacc] at q2; have hGW := GI.below hG hB; have y0 := y; obtain ⟨z0, z1, z2, z3, z4⟩ := y; have cn : W2.cell? ⟨w.heap.size + 1 + 1 + 1 + 1, 0, none⟩ = some (.int .i64 (n : Int)) := (blk_cell z4 0).trans rfl; have mixed : Tryz.prog.follows Departure.mixedOrders = true := by kernel_rfl
   obtain ⟨xs, xb⟩ := x; have hl : lns a0 = (pre ++ [(xs, xb)]) ++ more := by rw [q1, List.append_assoc]; rfl
   by_cases hn : n = 0
   ·
    rw [if_pos hn] at q2; subst hn; replace q2 := Option.bind_eq_some_iff.mp q2; obtain ⟨ty, hy, q2⟩ := q2; unfold tariff_Parse.word at hy; replace hy := Option.bind_eq_some_iff.mp hy; obtain ⟨⟨cw, cok⟩, hcut, hy⟩ := hy; replace hy := Option.bind_eq_some_iff.mp hy; obtain ⟨ri, hri, hy⟩ := hy; dsimp only at hcut hri hy
    have key : ∀ w2, Below W2.heap.size W2 w2 → tariff_Parse.Five w.heap.size (w2.setCell ⟨w.heap.size + 1 + 1 + 1, 0, none⟩ (.int .i64 ri)) 0 ri v ∧ KeepsFrom W0.heap.size W2 (w2.setCell ⟨w.heap.size + 1 + 1 + 1, 0, none⟩ (.int .i64 ri)) ∧ Below w.heap.size w (w2.setCell ⟨w.heap.size + 1 + 1 + 1, 0, none⟩ (.int .i64 ri)) ∧
      (w2.setCell ⟨w.heap.size + 1 + 1 + 1, 0, none⟩ (.int .i64 ri)).heap[w.heap.size + 5]? = W2.heap[w.heap.size + 5]? ∧ (w2.setCell ⟨w.heap.size + 1 + 1 + 1, 0, none⟩ (.int .i64 ri)).ownsRow (w.heap.size + 6) 26 3 v acc.length (flat26 acc) ∧ w.heap.size + 6 ≤ (w2.setCell ⟨w.heap.size + 1 + 1 + 1, 0, none⟩ (.int .i64 ri)).heap.size := by
     intro w2 hb12; obtain ⟨u0, u1, u2, u3, u4⟩ := y0.below hb12; have far : ∀ j, j ≠ w.heap.size + 3 → (w2.setCell ⟨w.heap.size + 1 + 1 + 1, 0, none⟩ (.int .i64 ri)).heap[j]? = w2.heap[j]? := fun j h1 => Below.heap_setCell _ _ _ j (by show j ≠ w.heap.size + 1 + 1 + 1; omega)
     refine ⟨⟨(far _ (by omega)).trans u0, (far _ (by omega)).trans u1, (far _ (by omega)).trans u2, blk_put u3 0 _ rfl, (far _ (by omega)).trans u4⟩, (keeps_below hb12).trans (keeps_low (by simp) (fun j hj _ => far j (by omega))),
      (below_step hB hb12).setCell (p := ⟨w.heap.size + 1 + 1 + 1, 0, none⟩) (by show w.heap.size ≤ w.heap.size + 1 + 1 + 1; omega) _, (far _ (by omega)).trans (hb12.block _ (by omega)), own_setCell (pw_own_below ho hb12) (fun e => by have := own_base ho _ e.symm; (have h9 : w.heap.size + 6 ≤ w.heap.size + 1 + 1 + 1 := this); omega) _, ?_⟩
     have := hb12.size; have h9 : w.heap.size + 6 ≤ w2.heap.size := by omega
     simpa using h9
    by_cases hgood : cok = true ∧ 1 ≤ ri ∧ xb = true
    case neg =>
     rw [if_neg hgood] at hy; cases hy; cases q2
     have hwhich : cok = false ∨ (cok = true ∧ ri < 1) ∨ (cok = true ∧ 1 ≤ ri ∧ xb = false) := by
      cases cok <;> cases xb <;> simp_all <;> omega
     rcases hwhich with rfl | ⟨rfl, hri1⟩ | ⟨rfl, hri1, rfl⟩
     ·
      gi_wp2_with (first | (refine ⟨trivial, ?_⟩; gi_at_call 58; refine (CallsIn.inRound l (callsIn_wide.2 (strings_CutPrefix.calls xs _ cw false _ hcut))).mono ?_; rintro e w1 ⟨rfl, hd1⟩; have hb1 := hd1.below; clear hcut) | (refine ⟨trivial, ?_⟩; gi_at_call 59; refine (CallsIn.inRound l (callsIn_wide.2 (slices_Index_string_string.calls k (some ⟨0, 0, none⟩) 5 tariff_Parse.wordsB cw ri w1 (words_C (GI.below hGW hb1).words) (by decide) hri))).mono ?_; rintro e w2 ⟨rfl, hd2⟩; have hb12 := below_step hb1 hd2.below; have yy := y0.below hb12; obtain ⟨u0, u1, u2, u3, u4⟩ := yy; have f00 : w2.frozen? ⟨w.heap.size, 0, none⟩ = false := blk_frozen u0 0; have f01 : w2.frozen? ⟨w.heap.size, 1, none⟩ = false := blk_frozen u0 1; have f1 : w2.frozen? ⟨w.heap.size + 1, 0, none⟩ = false := blk_frozen u1 0; have f2 : w2.frozen? ⟨w.heap.size + 1 + 1, 0, none⟩ = false := blk_frozen u2 0; have d00 : w2.cell? ⟨w.heap.size, 0, none⟩ = some (.int .i64 0) := (blk_cell u0 0).trans rfl; have d01 : w2.cell? ⟨w.heap.size, 1, none⟩ = some (.slice none 0 0) := (blk_cell u0 1).trans rfl; have d1 : w2.cell? ⟨w.heap.size + 1, 0, none⟩ = some (.int .i64 0) := (blk_cell u1 0).trans rfl; have d2 : w2.cell? ⟨w.heap.size + 1 + 1, 0, none⟩ = some (.int .i64 0) := (blk_cell u2 0).trans rfl; have d30 : w2.cell? ⟨w.heap.size + 1 + 1 + 1, 0, none⟩ = some (.int .i64 R) := (blk_cell u3 0).trans rfl; have d31 : w2.cell? ⟨w.heap.size + 1 + 1 + 1, 1, none⟩ = some v := (blk_cell u3 1).trans rfl; have f30 : w2.frozen? ⟨w.heap.size + 1 + 1 + 1, 0, none⟩ = false := blk_frozen u3 0; have f31 : w2.frozen? ⟨w.heap.size + 1 + 1 + 1, 1, none⟩ = false := blk_frozen u3 1; have d4 : w2.cell? ⟨w.heap.size + 1 + 1 + 1 + 1, 0, none⟩ = some (.int .i64 0) := (blk_cell u4 0).trans rfl; have f4 : w2.frozen? ⟨w.heap.size + 1 + 1 + 1 + 1, 0, none⟩ = false := blk_frozen u4 0))
      obtain ⟨k1, k2, k3, k4, k5, k6⟩ := key w2 hb12; exact ⟨k2.trans (tariff_Parse.failed (B := W0.heap.size) 0 [] k3 (by omega) k1).1, (tariff_Parse.failed (B := W0.heap.size) 0 _ k3 (by omega) k1).2⟩
     ·
      have hdec : decide (ri < 1) = true := decide_eq_true hri1; gi_wp2_with (first | (refine ⟨trivial, ?_⟩; gi_at_call 58; refine (CallsIn.inRound l (callsIn_wide.2 (strings_CutPrefix.calls xs _ cw true _ hcut))).mono ?_; rintro e w1 ⟨rfl, hd1⟩; have hb1 := hd1.below; clear hcut) | (refine ⟨trivial, ?_⟩; gi_at_call 59; refine (CallsIn.inRound l (callsIn_wide.2 (slices_Index_string_string.calls k (some ⟨0, 0, none⟩) 5 tariff_Parse.wordsB cw ri w1 (words_C (GI.below hGW hb1).words) (by decide) hri))).mono ?_; rintro e w2 ⟨rfl, hd2⟩; have hb12 := below_step hb1 hd2.below; have yy := y0.below hb12; obtain ⟨u0, u1, u2, u3, u4⟩ := yy; have f00 : w2.frozen? ⟨w.heap.size, 0, none⟩ = false := blk_frozen u0 0; have f01 : w2.frozen? ⟨w.heap.size, 1, none⟩ = false := blk_frozen u0 1; have f1 : w2.frozen? ⟨w.heap.size + 1, 0, none⟩ = false := blk_frozen u1 0; have f2 : w2.frozen? ⟨w.heap.size + 1 + 1, 0, none⟩ = false := blk_frozen u2 0; have d00 : w2.cell? ⟨w.heap.size, 0, none⟩ = some (.int .i64 0) := (blk_cell u0 0).trans rfl; have d01 : w2.cell? ⟨w.heap.size, 1, none⟩ = some (.slice none 0 0) := (blk_cell u0 1).trans rfl; have d1 : w2.cell? ⟨w.heap.size + 1, 0, none⟩ = some (.int .i64 0) := (blk_cell u1 0).trans rfl; have d2 : w2.cell? ⟨w.heap.size + 1 + 1, 0, none⟩ = some (.int .i64 0) := (blk_cell u2 0).trans rfl; have d30 : w2.cell? ⟨w.heap.size + 1 + 1 + 1, 0, none⟩ = some (.int .i64 R) := (blk_cell u3 0).trans rfl; have d31 : w2.cell? ⟨w.heap.size + 1 + 1 + 1, 1, none⟩ = some v := (blk_cell u3 1).trans rfl; have f30 : w2.frozen? ⟨w.heap.size + 1 + 1 + 1, 0, none⟩ = false := blk_frozen u3 0; have f31 : w2.frozen? ⟨w.heap.size + 1 + 1 + 1, 1, none⟩ = false := blk_frozen u3 1; have d4 : w2.cell? ⟨w.heap.size + 1 + 1 + 1 + 1, 0, none⟩ = some (.int .i64 0) := (blk_cell u4 0).trans rfl; have f4 : w2.frozen? ⟨w.heap.size + 1 + 1 + 1 + 1, 0, none⟩ = false := blk_frozen u4 0))
      obtain ⟨k1, k2, k3, k4, k5, k6⟩ := key w2 hb12; exact ⟨k2.trans (tariff_Parse.failed (B := W0.heap.size) 0 [] k3 (by omega) k1).1, (tariff_Parse.failed (B := W0.heap.size) 0 _ k3 (by omega) k1).2⟩
     ·
      have hdec : decide (ri < 1) = false := decide_eq_false (by omega); gi_wp2_with (first | (refine ⟨trivial, ?_⟩; gi_at_call 58; refine (CallsIn.inRound l (callsIn_wide.2 (strings_CutPrefix.calls xs _ cw true _ hcut))).mono ?_; rintro e w1 ⟨rfl, hd1⟩; have hb1 := hd1.below; clear hcut) | (refine ⟨trivial, ?_⟩; gi_at_call 59; refine (CallsIn.inRound l (callsIn_wide.2 (slices_Index_string_string.calls k (some ⟨0, 0, none⟩) 5 tariff_Parse.wordsB cw ri w1 (words_C (GI.below hGW hb1).words) (by decide) hri))).mono ?_; rintro e w2 ⟨rfl, hd2⟩; have hb12 := below_step hb1 hd2.below; have yy := y0.below hb12; obtain ⟨u0, u1, u2, u3, u4⟩ := yy; have f00 : w2.frozen? ⟨w.heap.size, 0, none⟩ = false := blk_frozen u0 0; have f01 : w2.frozen? ⟨w.heap.size, 1, none⟩ = false := blk_frozen u0 1; have f1 : w2.frozen? ⟨w.heap.size + 1, 0, none⟩ = false := blk_frozen u1 0; have f2 : w2.frozen? ⟨w.heap.size + 1 + 1, 0, none⟩ = false := blk_frozen u2 0; have d00 : w2.cell? ⟨w.heap.size, 0, none⟩ = some (.int .i64 0) := (blk_cell u0 0).trans rfl; have d01 : w2.cell? ⟨w.heap.size, 1, none⟩ = some (.slice none 0 0) := (blk_cell u0 1).trans rfl; have d1 : w2.cell? ⟨w.heap.size + 1, 0, none⟩ = some (.int .i64 0) := (blk_cell u1 0).trans rfl; have d2 : w2.cell? ⟨w.heap.size + 1 + 1, 0, none⟩ = some (.int .i64 0) := (blk_cell u2 0).trans rfl; have d30 : w2.cell? ⟨w.heap.size + 1 + 1 + 1, 0, none⟩ = some (.int .i64 R) := (blk_cell u3 0).trans rfl; have d31 : w2.cell? ⟨w.heap.size + 1 + 1 + 1, 1, none⟩ = some v := (blk_cell u3 1).trans rfl; have f30 : w2.frozen? ⟨w.heap.size + 1 + 1 + 1, 0, none⟩ = false := blk_frozen u3 0; have f31 : w2.frozen? ⟨w.heap.size + 1 + 1 + 1, 1, none⟩ = false := blk_frozen u3 1; have d4 : w2.cell? ⟨w.heap.size + 1 + 1 + 1 + 1, 0, none⟩ = some (.int .i64 0) := (blk_cell u4 0).trans rfl; have f4 : w2.frozen? ⟨w.heap.size + 1 + 1 + 1 + 1, 0, none⟩ = false := blk_frozen u4 0))
      obtain ⟨k1, k2, k3, k4, k5, k6⟩ := key w2 hb12; exact ⟨k2.trans (tariff_Parse.failed (B := W0.heap.size) 0 [] k3 (by omega) k1).1, (tariff_Parse.failed (B := W0.heap.size) 0 _ k3 (by omega) k1).2⟩
    case pos =>
     rw [if_pos hgood] at hy; cases hy; obtain ⟨rfl, hri1, rfl⟩ := hgood; have hdec : decide (ri < 1) = false := decide_eq_false (by omega); gi_wp2_with (first | (refine ⟨trivial, ?_⟩; gi_at_call 58; refine (CallsIn.inRound l (callsIn_wide.2 (strings_CutPrefix.calls xs _ cw true _ hcut))).mono ?_; rintro e w1 ⟨rfl, hd1⟩; have hb1 := hd1.below; clear hcut) | (refine ⟨trivial, ?_⟩; gi_at_call 59; refine (CallsIn.inRound l (callsIn_wide.2 (slices_Index_string_string.calls k (some ⟨0, 0, none⟩) 5 tariff_Parse.wordsB cw ri w1 (words_C (GI.below hGW hb1).words) (by decide) hri))).mono ?_; rintro e w2 ⟨rfl, hd2⟩; have hb12 := below_step hb1 hd2.below; have yy := y0.below hb12; obtain ⟨u0, u1, u2, u3, u4⟩ := yy; have f00 : w2.frozen? ⟨w.heap.size, 0, none⟩ = false := blk_frozen u0 0; have f01 : w2.frozen? ⟨w.heap.size, 1, none⟩ = false := blk_frozen u0 1; have f1 : w2.frozen? ⟨w.heap.size + 1, 0, none⟩ = false := blk_frozen u1 0; have f2 : w2.frozen? ⟨w.heap.size + 1 + 1, 0, none⟩ = false := blk_frozen u2 0; have d00 : w2.cell? ⟨w.heap.size, 0, none⟩ = some (.int .i64 0) := (blk_cell u0 0).trans rfl; have d01 : w2.cell? ⟨w.heap.size, 1, none⟩ = some (.slice none 0 0) := (blk_cell u0 1).trans rfl; have d1 : w2.cell? ⟨w.heap.size + 1, 0, none⟩ = some (.int .i64 0) := (blk_cell u1 0).trans rfl; have d2 : w2.cell? ⟨w.heap.size + 1 + 1, 0, none⟩ = some (.int .i64 0) := (blk_cell u2 0).trans rfl; have d30 : w2.cell? ⟨w.heap.size + 1 + 1 + 1, 0, none⟩ = some (.int .i64 R) := (blk_cell u3 0).trans rfl; have d31 : w2.cell? ⟨w.heap.size + 1 + 1 + 1, 1, none⟩ = some v := (blk_cell u3 1).trans rfl; have f30 : w2.frozen? ⟨w.heap.size + 1 + 1 + 1, 0, none⟩ = false := blk_frozen u3 0; have f31 : w2.frozen? ⟨w.heap.size + 1 + 1 + 1, 1, none⟩ = false := blk_frozen u3 1; have d4 : w2.cell? ⟨w.heap.size + 1 + 1 + 1 + 1, 0, none⟩ = some (.int .i64 0) := (blk_cell u4 0).trans rfl; have f4 : w2.frozen? ⟨w.heap.size + 1 + 1 + 1 + 1, 0, none⟩ = false := blk_frozen u4 0))
     obtain ⟨k1, k2, k3, k4, k5, k6⟩ := key w2 hb12; obtain ⟨p0, p1, p2, p3, p4⟩ := k1; have far : ∀ j, j ≠ w.heap.size + 4 → ((w2.setCell ⟨w.heap.size + 1 + 1 + 1, 0, none⟩ (.int .i64 ri)).setCell ⟨w.heap.size + 1 + 1 + 1 + 1, 0, none⟩ (.int .i64 1)).heap[j]? = (w2.setCell ⟨w.heap.size + 1 + 1 + 1, 0, none⟩ (.int .i64 ri)).heap[j]? := fun j h1 => Below.heap_setCell _ _ _ j (by show j ≠ w.heap.size + 1 + 1 + 1 + 1; omega)
     refine ⟨k2.trans (keeps_low (by simp) (fun j hj _ => far j (by omega))), (far _ (by omega)).trans k4, 1, ri, acc, v, more, hl, q2, ⟨(far _ (by omega)).trans p0, (far _ (by omega)).trans p1, (far _ (by omega)).trans p2, (far _ (by omega)).trans p3, blk_put p4 0 _ rfl⟩, own_setCell k5 (fun e => by have := own_base ho _ e.symm; (have h9 : w.heap.size + 6 ≤ w.heap.size + 1 + 1 + 1 + 1 := this); omega) _,
      k3.setCell (p := ⟨w.heap.size + 1 + 1 + 1 + 1, 0, none⟩) (by show w.heap.size ≤ w.heap.size + 1 + 1 + 1 + 1; omega) _, by simpa using k6⟩
   ·
    rw [if_neg hn] at q2; replace q2 := Option.bind_eq_some_iff.mp q2; obtain ⟨ty, hy, q2⟩ := q2; unfold tariff_Parse.rate at hy; replace hy := Option.bind_eq_some_iff.mp hy; obtain ⟨⟨g0, g1, g2, gok⟩, hrt, hy⟩ := hy; dsimp only at hrt hy
    have hn0 : ¬ ((n : Int) = 0) := by omega
    have hne : ((n : Int) == 0) = false := by rw [beq_eq_false_iff_ne]; exact hn0
    have hinc : wrap64 ((n : Int) + 1) = (n : Int) + 1 := by unfold wrap64; omega
    obtain ⟨Av, cv, rfl⟩ := own_slice ho; by_cases hgood : gok = true ∧ xb = true
    case neg =>
     rw [if_neg hgood] at hy; cases hy; cases q2
     have hwhich : gok = false ∨ (gok = true ∧ xb = false) := by
      cases gok <;> cases xb <;> simp_all
     rcases hwhich with rfl | ⟨rfl, rfl⟩
     ·
      gi_wp2_with (refine ⟨trivial, ?_⟩; gi_at_call 60; refine (CallsIn.inRound l (callsIn_wide.2 (tariff_rate.calls k xs g0 g1 g2 false W2 hGW hrt))).mono ?_; rintro e w1 ⟨rfl, hb1⟩; have hb1a : Below W2.heap.size W2 (w1.alloc (.cells #[.int .i64 g0, .int .i64 g1, .int .i64 g2] 26)) := below_alloc hb1 _; have yy := y0.below hb1a; obtain ⟨u0, u1, u2, u3, u4⟩ := yy; have f00 : (w1.alloc (.cells #[.int .i64 g0, .int .i64 g1, .int .i64 g2] 26)).frozen? ⟨w.heap.size, 0, none⟩ = false := blk_frozen u0 0; have f01 : (w1.alloc (.cells #[.int .i64 g0, .int .i64 g1, .int .i64 g2] 26)).frozen? ⟨w.heap.size, 1, none⟩ = false := blk_frozen u0 1; have f1 : (w1.alloc (.cells #[.int .i64 g0, .int .i64 g1, .int .i64 g2] 26)).frozen? ⟨w.heap.size + 1, 0, none⟩ = false := blk_frozen u1 0; have f2 : (w1.alloc (.cells #[.int .i64 g0, .int .i64 g1, .int .i64 g2] 26)).frozen? ⟨w.heap.size + 1 + 1, 0, none⟩ = false := blk_frozen u2 0; have d00 : (w1.alloc (.cells #[.int .i64 g0, .int .i64 g1, .int .i64 g2] 26)).cell? ⟨w.heap.size, 0, none⟩ = some (.int .i64 0) := (blk_cell u0 0).trans rfl; have d01 : (w1.alloc (.cells #[.int .i64 g0, .int .i64 g1, .int .i64 g2] 26)).cell? ⟨w.heap.size, 1, none⟩ = some (.slice none 0 0) := (blk_cell u0 1).trans rfl; have d1 : (w1.alloc (.cells #[.int .i64 g0, .int .i64 g1, .int .i64 g2] 26)).cell? ⟨w.heap.size + 1, 0, none⟩ = some (.int .i64 0) := (blk_cell u1 0).trans rfl; have d2 : (w1.alloc (.cells #[.int .i64 g0, .int .i64 g1, .int .i64 g2] 26)).cell? ⟨w.heap.size + 1 + 1, 0, none⟩ = some (.int .i64 0) := (blk_cell u2 0).trans rfl; have d30 : (w1.alloc (.cells #[.int .i64 g0, .int .i64 g1, .int .i64 g2] 26)).cell? ⟨w.heap.size + 1 + 1 + 1, 0, none⟩ = some (.int .i64 R) := (blk_cell u3 0).trans rfl; have d31 : (w1.alloc (.cells #[.int .i64 g0, .int .i64 g1, .int .i64 g2] 26)).cell? ⟨w.heap.size + 1 + 1 + 1, 1, none⟩ = some (.slice Av acc.length cv) := (blk_cell u3 1).trans rfl; have f30 : (w1.alloc (.cells #[.int .i64 g0, .int .i64 g1, .int .i64 g2] 26)).frozen? ⟨w.heap.size + 1 + 1 + 1, 0, none⟩ = false := blk_frozen u3 0; have f31 : (w1.alloc (.cells #[.int .i64 g0, .int .i64 g1, .int .i64 g2] 26)).frozen? ⟨w.heap.size + 1 + 1 + 1, 1, none⟩ = false := blk_frozen u3 1; have d4 : (w1.alloc (.cells #[.int .i64 g0, .int .i64 g1, .int .i64 g2] 26)).cell? ⟨w.heap.size + 1 + 1 + 1 + 1, 0, none⟩ = some (.int .i64 (n : Int)) := (blk_cell u4 0).trans rfl; have f4 : (w1.alloc (.cells #[.int .i64 g0, .int .i64 g1, .int .i64 g2] 26)).frozen? ⟨w.heap.size + 1 + 1 + 1 + 1, 0, none⟩ = false := blk_frozen u4 0)
      gi_region_o
      all_goals (rename_i Kr hr_; refine hr_ _ _ (wpIn_ret ?_))
      all_goals exact ⟨(keeps_below hb1a).trans (tariff_Parse.failedD (B := W0.heap.size) (n : Int) [] (below_step hB hb1a) (by omega) (y0.below hb1a)).1, (tariff_Parse.failedD (B := W0.heap.size) (n : Int) _ (below_step hB hb1a) (by omega) (y0.below hb1a)).2⟩
     ·
      gi_wp2_with (refine ⟨trivial, ?_⟩; gi_at_call 60; refine (CallsIn.inRound l (callsIn_wide.2 (tariff_rate.calls k xs g0 g1 g2 true W2 hGW hrt))).mono ?_; rintro e w1 ⟨rfl, hb1⟩; have hb1a : Below W2.heap.size W2 (w1.alloc (.cells #[.int .i64 g0, .int .i64 g1, .int .i64 g2] 26)) := below_alloc hb1 _; have yy := y0.below hb1a; obtain ⟨u0, u1, u2, u3, u4⟩ := yy; have f00 : (w1.alloc (.cells #[.int .i64 g0, .int .i64 g1, .int .i64 g2] 26)).frozen? ⟨w.heap.size, 0, none⟩ = false := blk_frozen u0 0; have f01 : (w1.alloc (.cells #[.int .i64 g0, .int .i64 g1, .int .i64 g2] 26)).frozen? ⟨w.heap.size, 1, none⟩ = false := blk_frozen u0 1; have f1 : (w1.alloc (.cells #[.int .i64 g0, .int .i64 g1, .int .i64 g2] 26)).frozen? ⟨w.heap.size + 1, 0, none⟩ = false := blk_frozen u1 0; have f2 : (w1.alloc (.cells #[.int .i64 g0, .int .i64 g1, .int .i64 g2] 26)).frozen? ⟨w.heap.size + 1 + 1, 0, none⟩ = false := blk_frozen u2 0; have d00 : (w1.alloc (.cells #[.int .i64 g0, .int .i64 g1, .int .i64 g2] 26)).cell? ⟨w.heap.size, 0, none⟩ = some (.int .i64 0) := (blk_cell u0 0).trans rfl; have d01 : (w1.alloc (.cells #[.int .i64 g0, .int .i64 g1, .int .i64 g2] 26)).cell? ⟨w.heap.size, 1, none⟩ = some (.slice none 0 0) := (blk_cell u0 1).trans rfl; have d1 : (w1.alloc (.cells #[.int .i64 g0, .int .i64 g1, .int .i64 g2] 26)).cell? ⟨w.heap.size + 1, 0, none⟩ = some (.int .i64 0) := (blk_cell u1 0).trans rfl; have d2 : (w1.alloc (.cells #[.int .i64 g0, .int .i64 g1, .int .i64 g2] 26)).cell? ⟨w.heap.size + 1 + 1, 0, none⟩ = some (.int .i64 0) := (blk_cell u2 0).trans rfl; have d30 : (w1.alloc (.cells #[.int .i64 g0, .int .i64 g1, .int .i64 g2] 26)).cell? ⟨w.heap.size + 1 + 1 + 1, 0, none⟩ = some (.int .i64 R) := (blk_cell u3 0).trans rfl; have d31 : (w1.alloc (.cells #[.int .i64 g0, .int .i64 g1, .int .i64 g2] 26)).cell? ⟨w.heap.size + 1 + 1 + 1, 1, none⟩ = some (.slice Av acc.length cv) := (blk_cell u3 1).trans rfl; have f30 : (w1.alloc (.cells #[.int .i64 g0, .int .i64 g1, .int .i64 g2] 26)).frozen? ⟨w.heap.size + 1 + 1 + 1, 0, none⟩ = false := blk_frozen u3 0; have f31 : (w1.alloc (.cells #[.int .i64 g0, .int .i64 g1, .int .i64 g2] 26)).frozen? ⟨w.heap.size + 1 + 1 + 1, 1, none⟩ = false := blk_frozen u3 1; have d4 : (w1.alloc (.cells #[.int .i64 g0, .int .i64 g1, .int .i64 g2] 26)).cell? ⟨w.heap.size + 1 + 1 + 1 + 1, 0, none⟩ = some (.int .i64 (n : Int)) := (blk_cell u4 0).trans rfl; have f4 : (w1.alloc (.cells #[.int .i64 g0, .int .i64 g1, .int .i64 g2] 26)).frozen? ⟨w.heap.size + 1 + 1 + 1 + 1, 0, none⟩ = false := blk_frozen u4 0)
      gi_region_o
      all_goals (rename_i Kr hr_; refine hr_ _ _ (wpIn_ret ?_))
      all_goals exact ⟨(keeps_below hb1a).trans (tariff_Parse.failedD (B := W0.heap.size) (n : Int) [] (below_step hB hb1a) (by omega) (y0.below hb1a)).1, (tariff_Parse.failedD (B := W0.heap.size) (n : Int) _ (below_step hB hb1a) (by omega) (y0.below hb1a)).2⟩
    case pos =>
     rw [if_pos hgood] at hy; cases hy; obtain ⟨rfl, rfl⟩ := hgood; obtain ⟨i0, hi0, hz0, hzs, hzb⟩ := info_parts info26; gi_wp2_with (first | (refine ⟨trivial, ?_⟩; gi_at_call 60; refine (CallsIn.inRound l (callsIn_wide.2 (tariff_rate.calls k xs g0 g1 g2 true W2 hGW hrt))).mono ?_; rintro e w1 ⟨rfl, hb1⟩; have hb1a : Below W2.heap.size W2 (w1.alloc (.cells #[.int .i64 g0, .int .i64 g1, .int .i64 g2] 26)) := below_alloc hb1 _; have yy := y0.below hb1a; obtain ⟨u0, u1, u2, u3, u4⟩ := yy; have f00 : (w1.alloc (.cells #[.int .i64 g0, .int .i64 g1, .int .i64 g2] 26)).frozen? ⟨w.heap.size, 0, none⟩ = false := blk_frozen u0 0; have f01 : (w1.alloc (.cells #[.int .i64 g0, .int .i64 g1, .int .i64 g2] 26)).frozen? ⟨w.heap.size, 1, none⟩ = false := blk_frozen u0 1; have f1 : (w1.alloc (.cells #[.int .i64 g0, .int .i64 g1, .int .i64 g2] 26)).frozen? ⟨w.heap.size + 1, 0, none⟩ = false := blk_frozen u1 0; have f2 : (w1.alloc (.cells #[.int .i64 g0, .int .i64 g1, .int .i64 g2] 26)).frozen? ⟨w.heap.size + 1 + 1, 0, none⟩ = false := blk_frozen u2 0; have d00 : (w1.alloc (.cells #[.int .i64 g0, .int .i64 g1, .int .i64 g2] 26)).cell? ⟨w.heap.size, 0, none⟩ = some (.int .i64 0) := (blk_cell u0 0).trans rfl; have d01 : (w1.alloc (.cells #[.int .i64 g0, .int .i64 g1, .int .i64 g2] 26)).cell? ⟨w.heap.size, 1, none⟩ = some (.slice none 0 0) := (blk_cell u0 1).trans rfl; have d1 : (w1.alloc (.cells #[.int .i64 g0, .int .i64 g1, .int .i64 g2] 26)).cell? ⟨w.heap.size + 1, 0, none⟩ = some (.int .i64 0) := (blk_cell u1 0).trans rfl; have d2 : (w1.alloc (.cells #[.int .i64 g0, .int .i64 g1, .int .i64 g2] 26)).cell? ⟨w.heap.size + 1 + 1, 0, none⟩ = some (.int .i64 0) := (blk_cell u2 0).trans rfl; have d30 : (w1.alloc (.cells #[.int .i64 g0, .int .i64 g1, .int .i64 g2] 26)).cell? ⟨w.heap.size + 1 + 1 + 1, 0, none⟩ = some (.int .i64 R) := (blk_cell u3 0).trans rfl; have d31 : (w1.alloc (.cells #[.int .i64 g0, .int .i64 g1, .int .i64 g2] 26)).cell? ⟨w.heap.size + 1 + 1 + 1, 1, none⟩ = some (.slice Av acc.length cv) := (blk_cell u3 1).trans rfl; have f30 : (w1.alloc (.cells #[.int .i64 g0, .int .i64 g1, .int .i64 g2] 26)).frozen? ⟨w.heap.size + 1 + 1 + 1, 0, none⟩ = false := blk_frozen u3 0; have f31 : (w1.alloc (.cells #[.int .i64 g0, .int .i64 g1, .int .i64 g2] 26)).frozen? ⟨w.heap.size + 1 + 1 + 1, 1, none⟩ = false := blk_frozen u3 1; have d4 : (w1.alloc (.cells #[.int .i64 g0, .int .i64 g1, .int .i64 g2] 26)).cell? ⟨w.heap.size + 1 + 1 + 1 + 1, 0, none⟩ = some (.int .i64 (n : Int)) := (blk_cell u4 0).trans rfl; have f4 : (w1.alloc (.cells #[.int .i64 g0, .int .i64 g1, .int .i64 g2] 26)).frozen? ⟨w.heap.size + 1 + 1 + 1 + 1, 0, none⟩ = false := blk_frozen u4 0) | (gi_at_builtin; refine wpListIn_append_own _ rfl _ _ 22 rfl (w.heap.size + 6) 26 i0 (.agg #[(.int .i64 0), (.int .i64 0), (.int .i64 0)]) 3 24 Tryz.underlying22 hi0 hz0 hzs hzb rfl (by decide) _ _ _ rfl (own_alloc (pw_own_below ho hb1a) _) ⟨w1.heap.size + 1, 0, none⟩ 1 1 [.int .i64 g0, .int .i64 g1, .int .i64 g2] rfl rfl (fun j u hj => by have h9 := three_cells (w1.alloc (.cells #[.int .i64 g0, .int .i64 g1, .int .i64 g2] 26)) (.int .i64 g0) (.int .i64 g1) (.int .i64 g2) 26 j u hj; rwa [World.size_alloc] at h9) (by simp [Value.oneCell']) (by unfold maxLen; omega) (by omega) (by have := hb1a.size; rw [World.size_alloc]; omega) ?_; intro v' w4 hown' hgrow _; obtain ⟨g', cap', rfl⟩ := ownsRow_succ hown'; have yy4 := (y0.below (below_alloc hb1a (.cells #[.int .i64 g0, .int .i64 g1, .int .i64 g2] 26))).grown hgrow (fun j e => by have := own_base ho j e; omega); obtain ⟨s0, s1, s2, s3, s4⟩ := yy4; have e31 : w4.cell? ⟨w.heap.size + 1 + 1 + 1, 1, none⟩ = some (.slice Av acc.length cv) := (blk_cell s3 1).trans rfl; have e31f : w4.frozen? ⟨w.heap.size + 1 + 1 + 1, 1, none⟩ = false := blk_frozen s3 1; have e4 : w4.cell? ⟨w.heap.size + 1 + 1 + 1 + 1, 0, none⟩ = some (.int .i64 (n : Int)) := (blk_cell s4 0).trans rfl; have e4f : w4.frozen? ⟨w.heap.size + 1 + 1 + 1 + 1, 0, none⟩ = false := blk_frozen s4 0))
     try simp only [hinc]
     exact tariff_Parse.went (B := W0.heap.size) hl q2 hB (below_alloc hb1a _) (by omega) y0 ho hW5 hown' hgrow
  case done =>
   rintro W ⟨n, R, acc, v, rest, q1, q2, y, ho, hB, hW5⟩ hD; have hrest : rest = [] := by simpa using q1
   subst hrest; unfold tariff_Parse.go at q2; have y0 := y; obtain ⟨z0, z1, z2, z3, z4⟩ := y; have cn : W.cell? ⟨w.heap.size + 1 + 1 + 1 + 1, 0, none⟩ = some (.int .i64 (n : Int)) := (blk_cell z4 0).trans rfl; have c30 : W.cell? ⟨w.heap.size + 1 + 1 + 1, 0, none⟩ = some (.int .i64 R) := (blk_cell z3 0).trans rfl; have c31 : W.cell? ⟨w.heap.size + 1 + 1 + 1, 1, none⟩ = some v := (blk_cell z3 1).trans rfl; have hDs : w.heap.size + 6 ≤ W0.heap.size := by omega
   by_cases hn : n = 0
   ·
    rw [if_pos hn] at q2; cases q2; subst hn; have f00 : W.frozen? ⟨w.heap.size, 0, none⟩ = false := blk_frozen z0 0; have f01 : W.frozen? ⟨w.heap.size, 1, none⟩ = false := blk_frozen z0 1; have f1 : W.frozen? ⟨w.heap.size + 1, 0, none⟩ = false := blk_frozen z1 0; have f2 : W.frozen? ⟨w.heap.size + 1 + 1, 0, none⟩ = false := blk_frozen z2 0; have d00 : W.cell? ⟨w.heap.size, 0, none⟩ = some (.int .i64 0) := (blk_cell z0 0).trans rfl; have d01 : W.cell? ⟨w.heap.size, 1, none⟩ = some (.slice none 0 0) := (blk_cell z0 1).trans rfl; have d1 : W.cell? ⟨w.heap.size + 1, 0, none⟩ = some (.int .i64 0) := (blk_cell z1 0).trans rfl; have d2 : W.cell? ⟨w.heap.size + 1 + 1, 0, none⟩ = some (.int .i64 0) := (blk_cell z2 0).trans rfl; gi_wp2
    have hDD : W0.heap.size = w.heap.size + 6 := hsz; rw [hDD] at hD; exact tariff_Parse.leave (by first | exact (tariff_Parse.put_far 0 _ 0 3 (by omega)).trans hD | (rw [hDD]; exact (tariff_Parse.put_far 0 _ 0 3 (by omega)).trans hD)) (by omega) (y0.put 0 _ 0 3) (tariff_Parse.put_below 0 _ 0 3 rfl hB) (World.ownsRow_nil _ _ _ _) rfl rfl rfl
   ·
    rw [if_neg hn] at q2; obtain ⟨b, hb, q2⟩ := Option.bind_eq_some_iff.mp q2; obtain ⟨Av, cv, hse, hle, hC⟩ := Kd.R_reads (own_R26 ho); subst hse; have hn0 : ¬ ((n : Int) = 0) := by omega
    have hne : ((n : Int) == 0) = false := by rw [beq_eq_false_iff_ne]; exact hn0
    have hDD : W0.heap.size = w.heap.size + 6 := hsz
    cases b with
    | false =>
     rw [if_neg (by simp)] at q2; cases q2; gi_wp2_with (refine ⟨trivial, ?_⟩; gi_at_call 41; refine (callsIn_wide.2 (tariff_right.calls k R Av cv acc false W hC hle hb)).mono ?_; rintro e w1 ⟨rfl, hb1⟩; obtain ⟨u0, u1, u2, u3, u4⟩ := y0.below hb1; have f00 : w1.frozen? ⟨w.heap.size, 0, none⟩ = false := blk_frozen u0 0; have f01 : w1.frozen? ⟨w.heap.size, 1, none⟩ = false := blk_frozen u0 1; have f1 : w1.frozen? ⟨w.heap.size + 1, 0, none⟩ = false := blk_frozen u1 0; have f2 : w1.frozen? ⟨w.heap.size + 1 + 1, 0, none⟩ = false := blk_frozen u2 0; have d00 : w1.cell? ⟨w.heap.size, 0, none⟩ = some (.int .i64 0) := (blk_cell u0 0).trans rfl; have d01 : w1.cell? ⟨w.heap.size, 1, none⟩ = some (.slice none 0 0) := (blk_cell u0 1).trans rfl; have d1 : w1.cell? ⟨w.heap.size + 1, 0, none⟩ = some (.int .i64 0) := (blk_cell u1 0).trans rfl; have d2 : w1.cell? ⟨w.heap.size + 1 + 1, 0, none⟩ = some (.int .i64 0) := (blk_cell u2 0).trans rfl; have d30 : w1.cell? ⟨w.heap.size + 1 + 1 + 1, 0, none⟩ = some (.int .i64 R) := (blk_cell u3 0).trans rfl; have d31 : w1.cell? ⟨w.heap.size + 1 + 1 + 1, 1, none⟩ = some (.slice Av acc.length cv) := (blk_cell u3 1).trans rfl)
     rw [hDD] at hD; have hd1 := (hb1.block _ (blk_lt hD)).trans hD
     exact tariff_Parse.leave ((tariff_Parse.put_far 0 _ (-1) 1 (by omega)).trans hd1) (by omega) ((y0.below hb1).put 0 _ (-1) 1) (tariff_Parse.put_below 0 _ (-1) 1 rfl (below_step hB hb1)) (World.ownsRow_nil _ _ _ _) rfl rfl rfl
    | true =>
     rw [if_pos rfl] at q2; cases q2; gi_wp2_with (refine ⟨trivial, ?_⟩; gi_at_call 41; refine (callsIn_wide.2 (tariff_right.calls k r1 Av cv r2 true W hC hle hb)).mono ?_; rintro e w1 ⟨rfl, hb1⟩; obtain ⟨u0, u1, u2, u3, u4⟩ := y0.below hb1; have f00 : w1.frozen? ⟨w.heap.size, 0, none⟩ = false := blk_frozen u0 0; have f01 : w1.frozen? ⟨w.heap.size, 1, none⟩ = false := blk_frozen u0 1; have f1 : w1.frozen? ⟨w.heap.size + 1, 0, none⟩ = false := blk_frozen u1 0; have f2 : w1.frozen? ⟨w.heap.size + 1 + 1, 0, none⟩ = false := blk_frozen u2 0; have d00 : w1.cell? ⟨w.heap.size, 0, none⟩ = some (.int .i64 0) := (blk_cell u0 0).trans rfl; have d01 : w1.cell? ⟨w.heap.size, 1, none⟩ = some (.slice none 0 0) := (blk_cell u0 1).trans rfl; have d1 : w1.cell? ⟨w.heap.size + 1, 0, none⟩ = some (.int .i64 0) := (blk_cell u1 0).trans rfl; have d2 : w1.cell? ⟨w.heap.size + 1 + 1, 0, none⟩ = some (.int .i64 0) := (blk_cell u2 0).trans rfl; have d30 : w1.cell? ⟨w.heap.size + 1 + 1 + 1, 0, none⟩ = some (.int .i64 r1) := (blk_cell u3 0).trans rfl; have d31 : w1.cell? ⟨w.heap.size + 1 + 1 + 1, 1, none⟩ = some (.slice Av r2.length cv) := (blk_cell u3 1).trans rfl)
     rw [hDD] at hD; have hd1 := (hb1.block _ (blk_lt hD)).trans hD; refine tariff_Parse.leave ((tariff_Parse.put_far r1 _ (-1) 0 (by omega)).trans hd1) (by omega) ((y0.below hb1).put r1 _ (-1) 0) (tariff_Parse.put_below r1 _ (-1) 0 rfl (below_step hB hb1)) ?_ rfl rfl rfl; have ho1 := pw_own_below ho hb1; have no : ∀ b, b < w.heap.size + 6 → some b ≠ (Value.slice Av r2.length cv).ownBlock := fun b hb e => by have := own_base ho1 b e.symm; omega
     exact own_setCell (own_setCell (own_setCell (own_setCell ho1 (no _ (by show w.heap.size < _; omega)) _) (no _ (by show w.heap.size < _; omega)) _) (no _ (by show w.heap.size + 1 < _; omega)) _) (no _ (by show w.heap.size + 1 + 1 < _; omega)) _
  case stop =>
   rintro pre W _ ⟨hr1, hr2, y, hB⟩ hD; dsimp only at hr1 hr2 y
   subst hr1; subst hr2; gi_wp2
   exact tariff_Parse.leave hD (by omega) y hB (World.ownsRow_nil _ _ _ _) rfl rfl rfl
end
def spilelaw46_example.f  : Option (Int × (List (S26))) := some (3, (([(⟨1, 0, 1000⟩ : S26), (⟨1, 100, 1500⟩ : S26)] : List (S26))))
set_option maxHeartbeats 8000000 in
set_option maxRecDepth 100000 in
theorem spilelaw46_example.calls  (r1 : Int) (r2 : List (S26)) (w : World) (h : spilelaw46_example.f  = some (r1, r2)) :
  Calls Tryz.prog 34 #[] w fun e w' => ∃ v1_ : Value, e = .returned (.agg #[.int .i64 r1, v1_]) ∧ Kd.R k26 26 w' w.heap.size (fun _ => True) v1_ r2 ∧ Below w.heap.size w w' := by
 have hu24 := Tryz.underlying24; have hu26 := Tryz.underlying26; have HB := Aside0.mk (Below.refl w.heap.size w); have H : (some (3, (([(⟨1, 0, 1000⟩ : S26), (⟨1, 100, 1500⟩ : S26)] : List (S26))))) = some (r1, r2) := h; clear h; obtain ⟨y214, hy214⟩ : ∃ y_ : List (S26), y_ = (([(⟨1, 0, 1000⟩ : S26), (⟨1, 100, 1500⟩ : S26)] : List (S26))) := ⟨_, rfl⟩; replace H : (some (3, y214)) = some (r1, r2) := by first | (rw [hy214]; with_reducible exact H) | (have H2_ := (Option.bind_some _ _).symm.trans H; rw [hy214]; with_reducible exact H2_) | (have H2_ := (Option.bind_some _ _).symm.trans H; with_reducible exact H2_) | with_reducible exact H | (rw [hy214]; exact H) | exact H
 have Ny214 := Aside0.mk hy214; clear hy214; simp only [Option.some.injEq, Prod.mk.injEq] at H; obtain ⟨rfl, rfl⟩ := H; go_enter Tryz.func34, Tryz.ntmps34
 go_wp2_with (first | ((with_reducible refine gate_dst (N := 0) rfl ?_); refine box_event ?hg (N := 0) ?hd (cs := #[.int .i64 0, .slice none 0 0]) (t := 24) ?hr ?_; (case hd => rfl); (case hg => rfl); (case hr => first | (go_simp; done) | (go_simp; rfl)); intro gb213 hg w1 hbox hb; have n0_ := Aside0.mk (below_step (eG HB.out) hb); have n1_ := Aside0.mk (hbox); have n2_ := Aside0.mk ((by rw [hg]; exact (below_size (eG HB.out)) : w.heap.size ≤ gb213)); have n3_ := Aside0.mk ((by rw [hg]; exact (below_size (eG HB.out)) : w.heap.size ≤ gb213)); clear HB; have HB := n0_; have BK213 := n1_; have GW213 := n2_; have GE213 := n3_; have ig213_ := geI GE213; clear n0_ n1_ n2_ n3_; clear hb hbox hg) | ((with_reducible refine gate_dst (N := 3) rfl ?_); refine Kd.R_lit k26 _ 26 ?hg (N := 3) ?hd (xs := ([(⟨1, 0, 1000⟩ : S26), (⟨1, 100, 1500⟩ : S26)] : List (S26))) (inner := [.int .i64 1, .int .i64 0, .int .i64 1000, .int .i64 1, .int .i64 100, .int .i64 1500]) (ok := fun _ => True) (okp := fun _ => True) ?hr ?hp (fun _ hk => hk) trivial (Below.refl _ _) (Nat.le_refl _) (by simp) ?_; (case hd => rfl); (case hg => rfl); (case hr => first | (go_simp; done) | (go_simp; rfl)); (case hp => exact (Reps.c3 (show Kd.M k26 _ _ _ (⟨1, 0, 1000⟩ : S26) [.int .i64 1, .int .i64 0, .int .i64 1000] from (k26_mkM _ _ _ (⟨1, 0, 1000⟩ : S26) )) (Reps.c3 (show Kd.M k26 _ _ _ (⟨1, 100, 1500⟩ : S26) [.int .i64 1, .int .i64 100, .int .i64 1500] from (k26_mkM _ _ _ (⟨1, 100, 1500⟩ : S26) )) (Reps.none _ _)))); intro v215 w2 ho3 hb hg_ hnew_; clear hg_ hnew_; (first | rw [← Ny214.out] at ho3 | (simp only [Int.reduceToNat] at ho3; rw [← Ny214.out] at ho3)); have n0_ := Aside0.mk (Kd.R_lower ho3 (below_size (eG HB.out))); have n1_ := Aside0.mk (blk_below (bG BK213.out) hb); have n2_ := Aside0.mk (below_step (eG HB.out) hb); clear BK213; clear HB; have HO216 := n0_; have BK213 := n1_; have HB := n2_; clear n0_ n1_ n2_; clear hb ho3; obtain ⟨Ao4, co4, eo4⟩ := Kd.R_slice HO216.out; subst eo4; have hcz5_0 : w2.cell? ⟨gb213, 0, none⟩ = some (.int .i64 0) := (blk_cell BK213.out 0).trans rfl; have hcz5_1 : w2.cell? ⟨gb213, 1, none⟩ = some (.slice none 0 0) := (blk_cell BK213.out 1).trans rfl; have hfz5_0 := blk_frozen BK213.out 0; have hfz5_1 := blk_frozen BK213.out 1))
 refine bodyPost_ret (results_cell_row rfl _ _ gb213 24 #[.int .i64 3, .slice Ao4 y214.length co4] (0, 0) _ rfl (by (with_reducible repeat first | apply bN | apply bD | apply bA); refine blk_put (cs := #[.int .i64 3, .slice none 0 0]) ?_ 1 _ rfl; (with_reducible repeat first | apply bN | apply bD | apply bA); refine blk_put (cs := #[.int .i64 0, .slice none 0 0]) ?_ 0 _ rfl; (with_reducible repeat first | apply bN | apply bD | apply bA); exact BK213.out) Tryz.underlying24 rfl (by kernel_rfl)) rfl ?_; exact ⟨_, by first | rfl | (simp [errW_none, errW_some] <;> rfl) | (simp [*, errW_none, errW_some] <;> rfl), by (with_reducible repeat (first | apply Kd.R_alloc | apply Kd.R_drewN | apply Kd.R_drew)); exact Kd.R_mono (Kd.R_far (p := ⟨gb213, 1, none⟩) (Kd.R_far (p := ⟨gb213, 0, none⟩) (Kd.R_types HO216.out BK213.out (by decide)) (fun _ hk => hk.2) (.int .i64 3)) (fun _ hk => hk.2) (.slice Ao4 y214.length co4)) (fun _ hk => trivial), eG HB.out⟩
def spilelaw46_awake.f  : Option (Bool) := if ([(⟨1, 0, 1000⟩ : S26), (⟨1, 50, 7⟩ : S26), (⟨1, 100, 1500⟩ : S26)].length : Int) = 3 then (if 1 < ([(⟨1, 0, 1000⟩ : S26), (⟨1, 50, 7⟩ : S26), (⟨1, 100, 1500⟩ : S26)].length : Int) then (if ((rd_T26 [(⟨1, 0, 1000⟩ : S26), (⟨1, 50, 7⟩ : S26), (⟨1, 100, 1500⟩ : S26)] 1).f2) = 7 then (some true) else (some true)) else (none)) else (some true)
set_option maxHeartbeats 8000000 in
set_option maxRecDepth 100000 in
theorem spilelaw46_awake.calls  (r : Bool) (w : World) (hG : GI w) (h : spilelaw46_awake.f  = some r) :
  Calls Tryz.prog 11 #[] w fun e w' => e = .returned (.bool r) ∧ Below w.heap.size w w' := by
 have hu26 := Tryz.underlying26; have hu24 := Tryz.underlying24; have HG := Aside0.mk hG; clear hG; have HB := Aside0.mk (Below.refl w.heap.size w); have H : (if ([(⟨1, 0, 1000⟩ : S26), (⟨1, 50, 7⟩ : S26), (⟨1, 100, 1500⟩ : S26)].length : Int) = 3 then (if 1 < ([(⟨1, 0, 1000⟩ : S26), (⟨1, 50, 7⟩ : S26), (⟨1, 100, 1500⟩ : S26)].length : Int) then (if ((rd_T26 [(⟨1, 0, 1000⟩ : S26), (⟨1, 50, 7⟩ : S26), (⟨1, 100, 1500⟩ : S26)] 1).f2) = 7 then (some true) else (some true)) else (none)) else (some true)) = some r := h; clear h; have A1 := Aside0.mk (show (spilelaw46_example.f) = some (3, [(⟨1, 0, 1000⟩ : S26), (⟨1, 100, 1500⟩ : S26)]) from by kernel_rfl); have A2 := Aside0.mk (show (tariff_Duty.f 400 3 [(⟨1, 0, 1000⟩ : S26), (⟨1, 100, 1500⟩ : S26)] 1 99 25000000) = some (2500, 0) from by kernel_rfl); have A3 := Aside0.mk (show (spilelaw46_example.f) = some (3, [(⟨1, 0, 1000⟩ : S26), (⟨1, 100, 1500⟩ : S26)]) from by kernel_rfl); have A4 := Aside0.mk (show (tariff_Duty.f 400 3 [(⟨1, 0, 1000⟩ : S26), (⟨1, 100, 1500⟩ : S26)] 1 100 25000000) = some (3750, 0) from by kernel_rfl); have A5 := Aside0.mk (show (spilelaw46_example.f) = some (3, [(⟨1, 0, 1000⟩ : S26), (⟨1, 100, 1500⟩ : S26)]) from by kernel_rfl); have A6 := Aside0.mk (show (tariff_Duty.f 400 3 [(⟨1, 0, 1000⟩ : S26), (⟨1, 100, 1500⟩ : S26)] 1 0 5000) = some (1, 0) from by kernel_rfl); have A7 := Aside0.mk (show (spilelaw46_example.f) = some (3, [(⟨1, 0, 1000⟩ : S26), (⟨1, 100, 1500⟩ : S26)]) from by kernel_rfl); have A8 := Aside0.mk (show (tariff_Greatest.f 400 3 [(⟨1, 0, 1000⟩ : S26), (⟨1, 100, 1500⟩ : S26)] 1 50 100) = some (1, 100, 1500, 0) from by kernel_rfl); have A9 := Aside0.mk (show (spilelaw46_example.f) = some (3, [(⟨1, 0, 1000⟩ : S26), (⟨1, 100, 1500⟩ : S26)]) from by kernel_rfl); have A10 := Aside0.mk (show (tariff_Changes.f 400 3 [(⟨1, 0, 1000⟩ : S26), (⟨1, 100, 1500⟩ : S26)] 1 50 100) = some (([100] : List Int), 0) from by kernel_rfl); have A11 := Aside0.mk (show (spilelaw46_example.f) = some (3, [(⟨1, 0, 1000⟩ : S26), (⟨1, 100, 1500⟩ : S26)]) from by kernel_rfl); have A12 := Aside0.mk (show (tariff_Print.f 400 3 [(⟨1, 0, 1000⟩ : S26), (⟨1, 100, 1500⟩ : S26)]) = some ((⟨#[114, 111, 117, 110, 100, 105, 110, 103, 32, 104, 97, 108, 102, 45, 117, 112, 10, 99, 108, 97, 115, 115, 32, 49, 32, 102, 114, 111, 109, 32, 48, 32, 97, 116, 32, 49, 48, 48, 48, 10, 99, 108, 97, 115, 115, 32, 49, 32, 102, 114, 111, 109, 32, 49, 48, 48, 32, 97, 116, 32, 49, 53, 48, 48, 10]⟩ : ByteArray), 0) from by kernel_rfl); have A13 := Aside0.mk (show (tariff_Parse.f 400 (⟨#[114, 111, 117, 110, 100, 105, 110, 103, 32, 117, 112, 10, 99, 108, 97, 115, 115, 32, 50, 32, 102, 114, 111, 109, 32, 55, 32, 97, 116, 32, 57, 10]⟩ : ByteArray)) = some (2, [(⟨2, 7, 9⟩ : S26)], (-1), 0) from by kernel_rfl); have A14 := Aside0.mk (show (spilelaw46_example.f) = some (3, [(⟨1, 0, 1000⟩ : S26), (⟨1, 100, 1500⟩ : S26)]) from by kernel_rfl); have A15 := Aside0.mk (show (tariff_Insert.f 400 3 [(⟨1, 0, 1000⟩ : S26), (⟨1, 100, 1500⟩ : S26)] 1 50 7) = some (3, [(⟨1, 0, 1000⟩ : S26), (⟨1, 50, 7⟩ : S26), (⟨1, 100, 1500⟩ : S26)], 0) from by kernel_rfl); have A16 := Aside0.mk (show (spilelaw46_example.f) = some (3, [(⟨1, 0, 1000⟩ : S26), (⟨1, 100, 1500⟩ : S26)]) from by kernel_rfl); have A17 := Aside0.mk (show (tariff_At.f 400 3 [(⟨1, 0, 1000⟩ : S26), (⟨1, 100, 1500⟩ : S26)] 1 99) = some (1, 0, 1000, 0) from by kernel_rfl); have A18 := Aside0.mk (show (spilelaw46_example.f) = some (3, [(⟨1, 0, 1000⟩ : S26), (⟨1, 100, 1500⟩ : S26)]) from by kernel_rfl); have A19 := Aside0.mk (show (tariff_Check.f 400 3 [(⟨1, 0, 1000⟩ : S26), (⟨1, 100, 1500⟩ : S26)]) = some ((-1), 0) from by kernel_rfl); obtain ⟨y245, hy245⟩ : ∃ y_ : List Int, y_ = (([100] : List Int)) := ⟨_, rfl⟩; have Ny245 := Aside0.mk hy245; clear hy245; have A20 := Aside0.mk (show (slices_Equal_int_int.f 400 ([100] : List Int) y245) = some true from by (try rw [Ny245.out]); kernel_rfl); obtain ⟨y248, hy248⟩ : ∃ y_ : List (S26), y_ = (([(⟨2, 7, 9⟩ : S26)] : List (S26))) := ⟨_, rfl⟩; have Ny248 := Aside0.mk hy248; clear hy248; have A21 := Aside0.mk (show (spileref46_Same.f 400 2 [(⟨2, 7, 9⟩ : S26)] 2 y248) = some true from by (try rw [Ny248.out]); kernel_rfl); by_cases c22 : ([(⟨1, 0, 1000⟩ : S26), (⟨1, 50, 7⟩ : S26), (⟨1, 100, 1500⟩ : S26)].length : Int) = 3
 ·
  rw [if_pos c22] at H; have c22b0 : (([(⟨1, 0, 1000⟩ : S26), (⟨1, 50, 7⟩ : S26), (⟨1, 100, 1500⟩ : S26)].length : Int) == 3) = true := beq_iff_eq.mpr c22; have c22b1 : (([(⟨1, 0, 1000⟩ : S26), (⟨1, 50, 7⟩ : S26), (⟨1, 100, 1500⟩ : S26)].length : Int) != 3) = false := bne_eq_false_iff_eq.mpr c22; clear c22; by_cases c23 : 1 < ([(⟨1, 0, 1000⟩ : S26), (⟨1, 50, 7⟩ : S26), (⟨1, 100, 1500⟩ : S26)].length : Int)
  ·
   rw [if_pos c23] at H; have c23b0 : decide (1 < ([(⟨1, 0, 1000⟩ : S26), (⟨1, 50, 7⟩ : S26), (⟨1, 100, 1500⟩ : S26)].length : Int)) = true := decide_eq_true c23; have c23b1 : decide (1 < [(⟨1, 0, 1000⟩ : S26), (⟨1, 50, 7⟩ : S26), (⟨1, 100, 1500⟩ : S26)].length) = true := decide_eq_true (by omega); clear c23; by_cases c24 : ((rd_T26 [(⟨1, 0, 1000⟩ : S26), (⟨1, 50, 7⟩ : S26), (⟨1, 100, 1500⟩ : S26)] 1).f2) = 7
   ·
    rw [if_pos c24] at H; have c24b0 : (((rd_T26 [(⟨1, 0, 1000⟩ : S26), (⟨1, 50, 7⟩ : S26), (⟨1, 100, 1500⟩ : S26)] 1).f2) == 7) = true := beq_iff_eq.mpr c24; have c24b1 : (((rd_T26 [(⟨1, 0, 1000⟩ : S26), (⟨1, 50, 7⟩ : S26), (⟨1, 100, 1500⟩ : S26)] 1).f2) != 7) = false := bne_eq_false_iff_eq.mpr c24; clear c24; obtain rfl := Option.some.inj H; go_enter Tryz.func11, Tryz.ntmps11
    try simp only [List.append_eq, List.cons_append, List.nil_append]
    go_wp2_with (first | ((with_reducible refine gate_callee (f := 34) rfl ?_); refine goesL_ (some 23) rfl rfl Tryz.func34 (by kernel_rfl) rfl #[] rfl (by (try simp only [List.map_toArray, List.map_cons, List.map_nil]); first | done | rfl | (simp only [List.length_drop, List.length_take]; rfl)) ?_; (with_reducible refine (spilelaw46_example.calls  3 [(⟨1, 0, 1000⟩ : S26), (⟨1, 100, 1500⟩ : S26)] _ A1.out).mono ?_); rintro e w25 ⟨v217, rfl, ho0, hb⟩; refine ⟨_, rfl, ?_⟩; have n0_ := Aside0.mk (Kd.R_lower ho0 (below_size (eG HB.out))); have n1_ := Aside0.mk (below_step (eG HB.out) hb); clear HB; have HO218 := n0_; have HB := n1_; clear n0_ n1_; (try clear hb); (try clear hb2); (try clear hk); (try clear hi); (try clear ho0); obtain ⟨Ao26, co26, eo26⟩ := Kd.R_slice HO218.out; subst eo26) | ((with_reducible refine gate_callee (f := 26) rfl ?_); refine goesL_ (some 24) rfl rfl Tryz.func26 (by kernel_rfl) rfl #[.agg #[.int .i64 3, .slice Ao26 [(⟨1, 0, 1000⟩ : S26), (⟨1, 100, 1500⟩ : S26)].length co26], .int .i64 1, .int .i64 99, .int .i64 25000000] rfl (by (try simp only [List.map_toArray, List.map_cons, List.map_nil]); first | done | rfl | (simp only [List.length_drop, List.length_take]; rfl)) ?_; (with_reducible refine (tariff_Duty.calls 400 3 _ _ [(⟨1, 0, 1000⟩ : S26), (⟨1, 100, 1500⟩ : S26)] 1 99 25000000 2500 0 _ ?side1 ?side2 A2.out).mono ?_); (case side1 => repeat (first | exact (Kd.R_reads' HO218.out).2.2 | (with_reducible refine Kd.C_alloc ?_ _) | (with_reducible refine Kd.C_drewN ?_ _) | (with_reducible refine Kd.C_drew ?_))); (case side2 => exact (Kd.R_reads' HO218.out).2.1); rintro e w27 ⟨rfl, hb⟩; refine ⟨_, rfl, ?_⟩; have n0_ := Aside0.mk (Kd.R_below (rG HO218.out) hb); have n1_ := Aside0.mk (below_step (eG HB.out) hb); clear HO218; clear HB; have HO218 := n0_; have HB := n1_; clear n0_ n1_; (try clear hb); (try clear hb2); (try clear hk); (try clear hi)) | ((with_reducible refine gate_callee (f := 34) rfl ?_); refine goesL_ (some 28) rfl rfl Tryz.func34 (by kernel_rfl) rfl #[] rfl (by (try simp only [List.map_toArray, List.map_cons, List.map_nil]); first | done | rfl | (simp only [List.length_drop, List.length_take]; rfl)) ?_; (with_reducible refine (spilelaw46_example.calls  3 [(⟨1, 0, 1000⟩ : S26), (⟨1, 100, 1500⟩ : S26)] _ A3.out).mono ?_); rintro e w28 ⟨v219, rfl, ho0, hb⟩; refine ⟨_, rfl, ?_⟩; have n0_ := Aside0.mk (Kd.R_elder' (rG HO218.out) (Kd.R_base ho0) hb); have n1_ := Aside0.mk (Kd.R_lower (Kd.R_new' ho0 (Kd.R_lt (rG HO218.out))) (below_size (eG HB.out))); have n2_ := Aside0.mk (below_step (eG HB.out) hb); clear HO218; clear HB; have HO218 := n0_; have HO220 := n1_; have HB := n2_; clear n0_ n1_ n2_; (try clear hb); (try clear hb2); (try clear hk); (try clear hi); (try clear ho0); obtain ⟨Ao29, co29, eo29⟩ := Kd.R_slice HO220.out; subst eo29) | ((with_reducible refine gate_callee (f := 26) rfl ?_); refine goesL_ (some 29) rfl rfl Tryz.func26 (by kernel_rfl) rfl #[.agg #[.int .i64 3, .slice Ao29 [(⟨1, 0, 1000⟩ : S26), (⟨1, 100, 1500⟩ : S26)].length co29], .int .i64 1, .int .i64 100, .int .i64 25000000] rfl (by (try simp only [List.map_toArray, List.map_cons, List.map_nil]); first | done | rfl | (simp only [List.length_drop, List.length_take]; rfl)) ?_; (with_reducible refine (tariff_Duty.calls 400 3 _ _ [(⟨1, 0, 1000⟩ : S26), (⟨1, 100, 1500⟩ : S26)] 1 100 25000000 3750 0 _ ?side1 ?side2 A4.out).mono ?_); (case side1 => repeat (first | exact (Kd.R_reads' HO220.out).2.2 | (with_reducible refine Kd.C_alloc ?_ _) | (with_reducible refine Kd.C_drewN ?_ _) | (with_reducible refine Kd.C_drew ?_))); (case side2 => exact (Kd.R_reads' HO220.out).2.1); rintro e w30 ⟨rfl, hb⟩; refine ⟨_, rfl, ?_⟩; have n0_ := Aside0.mk (Kd.R_below (rG HO218.out) hb); have n1_ := Aside0.mk (Kd.R_below (rG HO220.out) hb); have n2_ := Aside0.mk (below_step (eG HB.out) hb); clear HO218; clear HO220; clear HB; have HO218 := n0_; have HO220 := n1_; have HB := n2_; clear n0_ n1_ n2_; (try clear hb); (try clear hb2); (try clear hk); (try clear hi)) | ((with_reducible refine gate_callee (f := 34) rfl ?_); refine goesL_ (some 33) rfl rfl Tryz.func34 (by kernel_rfl) rfl #[] rfl (by (try simp only [List.map_toArray, List.map_cons, List.map_nil]); first | done | rfl | (simp only [List.length_drop, List.length_take]; rfl)) ?_; (with_reducible refine (spilelaw46_example.calls  3 [(⟨1, 0, 1000⟩ : S26), (⟨1, 100, 1500⟩ : S26)] _ A5.out).mono ?_); rintro e w31 ⟨v221, rfl, ho0, hb⟩; refine ⟨_, rfl, ?_⟩; have n0_ := Aside0.mk (Kd.R_elder' (rG HO218.out) (Kd.R_base ho0) hb); have n1_ := Aside0.mk (Kd.R_elder' (rG HO220.out) (Kd.R_base ho0) hb); have n2_ := Aside0.mk (Kd.R_lower (Kd.R_new' (Kd.R_new' ho0 (Kd.R_lt (rG HO218.out))) (Kd.R_lt (rG HO220.out))) (below_size (eG HB.out))); have n3_ := Aside0.mk (below_step (eG HB.out) hb); clear HO218; clear HO220; clear HB; have HO218 := n0_; have HO220 := n1_; have HO222 := n2_; have HB := n3_; clear n0_ n1_ n2_ n3_; (try clear hb); (try clear hb2); (try clear hk); (try clear hi); (try clear ho0); obtain ⟨Ao32, co32, eo32⟩ := Kd.R_slice HO222.out; subst eo32) | ((with_reducible refine gate_callee (f := 26) rfl ?_); refine goesL_ (some 34) rfl rfl Tryz.func26 (by kernel_rfl) rfl #[.agg #[.int .i64 3, .slice Ao32 [(⟨1, 0, 1000⟩ : S26), (⟨1, 100, 1500⟩ : S26)].length co32], .int .i64 1, .int .i64 0, .int .i64 5000] rfl (by (try simp only [List.map_toArray, List.map_cons, List.map_nil]); first | done | rfl | (simp only [List.length_drop, List.length_take]; rfl)) ?_; (with_reducible refine (tariff_Duty.calls 400 3 _ _ [(⟨1, 0, 1000⟩ : S26), (⟨1, 100, 1500⟩ : S26)] 1 0 5000 1 0 _ ?side1 ?side2 A6.out).mono ?_); (case side1 => repeat (first | exact (Kd.R_reads' HO222.out).2.2 | (with_reducible refine Kd.C_alloc ?_ _) | (with_reducible refine Kd.C_drewN ?_ _) | (with_reducible refine Kd.C_drew ?_))); (case side2 => exact (Kd.R_reads' HO222.out).2.1); rintro e w33 ⟨rfl, hb⟩; refine ⟨_, rfl, ?_⟩; have n0_ := Aside0.mk (Kd.R_below (rG HO218.out) hb); have n1_ := Aside0.mk (Kd.R_below (rG HO220.out) hb); have n2_ := Aside0.mk (Kd.R_below (rG HO222.out) hb); have n3_ := Aside0.mk (below_step (eG HB.out) hb); clear HO218; clear HO220; clear HO222; clear HB; have HO218 := n0_; have HO220 := n1_; have HO222 := n2_; have HB := n3_; clear n0_ n1_ n2_ n3_; (try clear hb); (try clear hb2); (try clear hk); (try clear hi)) | ((with_reducible refine gate_callee (f := 34) rfl ?_); refine goesL_ (some 38) rfl rfl Tryz.func34 (by kernel_rfl) rfl #[] rfl (by (try simp only [List.map_toArray, List.map_cons, List.map_nil]); first | done | rfl | (simp only [List.length_drop, List.length_take]; rfl)) ?_; (with_reducible refine (spilelaw46_example.calls  3 [(⟨1, 0, 1000⟩ : S26), (⟨1, 100, 1500⟩ : S26)] _ A7.out).mono ?_); rintro e w34 ⟨v223, rfl, ho0, hb⟩; refine ⟨_, rfl, ?_⟩; have n0_ := Aside0.mk (Kd.R_elder' (rG HO218.out) (Kd.R_base ho0) hb); have n1_ := Aside0.mk (Kd.R_elder' (rG HO220.out) (Kd.R_base ho0) hb); have n2_ := Aside0.mk (Kd.R_elder' (rG HO222.out) (Kd.R_base ho0) hb); have n3_ := Aside0.mk (Kd.R_lower (Kd.R_new' (Kd.R_new' (Kd.R_new' ho0 (Kd.R_lt (rG HO218.out))) (Kd.R_lt (rG HO220.out))) (Kd.R_lt (rG HO222.out))) (below_size (eG HB.out))); have n4_ := Aside0.mk (below_step (eG HB.out) hb); clear HO218; clear HO220; clear HO222; clear HB; have HO218 := n0_; have HO220 := n1_; have HO222 := n2_; have HO224 := n3_; have HB := n4_; clear n0_ n1_ n2_ n3_ n4_; (try clear hb); (try clear hb2); (try clear hk); (try clear hi); (try clear ho0); obtain ⟨Ao35, co35, eo35⟩ := Kd.R_slice HO224.out; subst eo35) | ((with_reducible refine gate_callee (f := 21) rfl ?_); refine goesL_ (some 39) rfl rfl Tryz.func21 (by kernel_rfl) rfl #[.agg #[.int .i64 3, .slice Ao35 [(⟨1, 0, 1000⟩ : S26), (⟨1, 100, 1500⟩ : S26)].length co35], .int .i64 1, .int .i64 50, .int .i64 100] rfl (by (try simp only [List.map_toArray, List.map_cons, List.map_nil]); first | done | rfl | (simp only [List.length_drop, List.length_take]; rfl)) ?_; (with_reducible refine (tariff_Greatest.calls 400 3 _ _ [(⟨1, 0, 1000⟩ : S26), (⟨1, 100, 1500⟩ : S26)] 1 50 100 1 100 1500 0 _ ?side1 ?side2 A8.out).mono ?_); (case side1 => repeat (first | exact (Kd.R_reads' HO224.out).2.2 | (with_reducible refine Kd.C_alloc ?_ _) | (with_reducible refine Kd.C_drewN ?_ _) | (with_reducible refine Kd.C_drew ?_))); (case side2 => exact (Kd.R_reads' HO224.out).2.1); rintro e w36 ⟨rfl, hb⟩; refine ⟨_, rfl, ?_⟩; have n0_ := Aside0.mk (Kd.R_below (rG HO218.out) hb); have n1_ := Aside0.mk (Kd.R_below (rG HO220.out) hb); have n2_ := Aside0.mk (Kd.R_below (rG HO222.out) hb); have n3_ := Aside0.mk (Kd.R_below (rG HO224.out) hb); have n4_ := Aside0.mk (below_step (eG HB.out) hb); clear HO218; clear HO220; clear HO222; clear HO224; clear HB; have HO218 := n0_; have HO220 := n1_; have HO222 := n2_; have HO224 := n3_; have HB := n4_; clear n0_ n1_ n2_ n3_ n4_; (try clear hb); (try clear hb2); (try clear hk); (try clear hi)) | ((with_reducible refine gate_dst (N := 7) rfl ?_); (try (refine gate_guard (by rfl) ?_; dsimp only)); refine box_event ?hg (N := 7) ?hd (cs := #[.int .i64 0, .int .i64 0, .int .i64 0]) (t := 26) ?hr ?_; (case hd => rfl); (case hg => rfl); (case hr => first | (go_simp; done) | (go_simp; rfl)); intro gb225 hg w37 hbox hb; have n0_ := Aside0.mk (Kd.R_below (Kd.R_elderB (rG HO218.out) gb225 (Nat.le_of_eq hg.symm)) hb); have n1_ := Aside0.mk (Kd.R_below (Kd.R_elderB (rG HO220.out) gb225 (Nat.le_of_eq hg.symm)) hb); have n2_ := Aside0.mk (Kd.R_below (Kd.R_elderB (rG HO222.out) gb225 (Nat.le_of_eq hg.symm)) hb); have n3_ := Aside0.mk (Kd.R_below (Kd.R_elderB (rG HO224.out) gb225 (Nat.le_of_eq hg.symm)) hb); have n4_ := Aside0.mk (below_step (eG HB.out) hb); have n5_ := Aside0.mk (hbox); have n6_ := Aside0.mk ((by rw [hg]; exact (below_size (eG HB.out)) : w.heap.size ≤ gb225)); have n7_ := Aside0.mk ((by rw [hg]; exact (below_size (eG HB.out)) : w.heap.size ≤ gb225)); clear HO218; clear HO220; clear HO222; clear HO224; clear HB; have HO218 := n0_; have HO220 := n1_; have HO222 := n2_; have HO224 := n3_; have HB := n4_; have BK225 := n5_; have GW225 := n6_; have GE225 := n7_; have ig225_ := geI GE225; clear n0_ n1_ n2_ n3_ n4_ n5_ n6_ n7_; clear hb hbox hg; have hcz38_0 : w37.cell? ⟨gb225, 0, none⟩ = some (.int .i64 0) := (blk_cell BK225.out 0).trans rfl; have hcz38_1 : w37.cell? ⟨gb225, 1, none⟩ = some (.int .i64 0) := (blk_cell BK225.out 1).trans rfl; have hcz38_2 : w37.cell? ⟨gb225, 2, none⟩ = some (.int .i64 0) := (blk_cell BK225.out 2).trans rfl; have hfz38_0 := blk_frozen BK225.out 0; have hfz38_1 := blk_frozen BK225.out 1; have hfz38_2 := blk_frozen BK225.out 2) | ((with_reducible refine gate_callee (f := 34) rfl ?_); refine goesL_ (some 43) rfl rfl Tryz.func34 (by kernel_rfl) rfl #[] rfl (by (try simp only [List.map_toArray, List.map_cons, List.map_nil]); first | done | rfl | (simp only [List.length_drop, List.length_take]; rfl)) ?_; (with_reducible refine (spilelaw46_example.calls  3 [(⟨1, 0, 1000⟩ : S26), (⟨1, 100, 1500⟩ : S26)] _ A9.out).mono ?_); rintro e w39 ⟨v226, rfl, ho0, hb⟩; refine ⟨_, rfl, ?_⟩; have n0_ := Aside0.mk (Kd.R_elder' (by (with_reducible repeat (first | apply Kd.R_alloc | apply Kd.R_drewN | apply Kd.R_drew)); exact (Kd.R_mono (Kd.R_far (p := ⟨gb225, 2, none⟩) (Kd.R_far (p := ⟨gb225, 1, none⟩) (Kd.R_far (p := ⟨gb225, 0, none⟩) (Kd.R_mono HO218.out (fun k_ hk => (⟨hk, hk.2⟩ : _ ∧ k_ ≠ gb225))) (fun _ hk => hk.2) (.int .i64 1)) (fun _ hk => hk.2) (.int .i64 100)) (fun _ hk => hk.2) (.int .i64 1500)) (fun _ h_ => h_.1))) (Kd.R_base ho0) hb); have n1_ := Aside0.mk (Kd.R_elder' (by (with_reducible repeat (first | apply Kd.R_alloc | apply Kd.R_drewN | apply Kd.R_drew)); exact (Kd.R_mono (Kd.R_far (p := ⟨gb225, 2, none⟩) (Kd.R_far (p := ⟨gb225, 1, none⟩) (Kd.R_far (p := ⟨gb225, 0, none⟩) (Kd.R_mono HO220.out (fun k_ hk => (⟨hk, hk.2⟩ : _ ∧ k_ ≠ gb225))) (fun _ hk => hk.2) (.int .i64 1)) (fun _ hk => hk.2) (.int .i64 100)) (fun _ hk => hk.2) (.int .i64 1500)) (fun _ h_ => h_.1))) (Kd.R_base ho0) hb); have n2_ := Aside0.mk (Kd.R_elder' (by (with_reducible repeat (first | apply Kd.R_alloc | apply Kd.R_drewN | apply Kd.R_drew)); exact (Kd.R_mono (Kd.R_far (p := ⟨gb225, 2, none⟩) (Kd.R_far (p := ⟨gb225, 1, none⟩) (Kd.R_far (p := ⟨gb225, 0, none⟩) (Kd.R_mono HO222.out (fun k_ hk => (⟨hk, hk.2⟩ : _ ∧ k_ ≠ gb225))) (fun _ hk => hk.2) (.int .i64 1)) (fun _ hk => hk.2) (.int .i64 100)) (fun _ hk => hk.2) (.int .i64 1500)) (fun _ h_ => h_.1))) (Kd.R_base ho0) hb); have n3_ := Aside0.mk (Kd.R_elder' (by (with_reducible repeat (first | apply Kd.R_alloc | apply Kd.R_drewN | apply Kd.R_drew)); exact (Kd.R_mono (Kd.R_far (p := ⟨gb225, 2, none⟩) (Kd.R_far (p := ⟨gb225, 1, none⟩) (Kd.R_far (p := ⟨gb225, 0, none⟩) (Kd.R_mono HO224.out (fun k_ hk => (⟨hk, hk.2⟩ : _ ∧ k_ ≠ gb225))) (fun _ hk => hk.2) (.int .i64 1)) (fun _ hk => hk.2) (.int .i64 100)) (fun _ hk => hk.2) (.int .i64 1500)) (fun _ h_ => h_.1))) (Kd.R_base ho0) hb); have n4_ := Aside0.mk (Kd.R_lower (Kd.R_newB (Kd.R_new' (Kd.R_new' (Kd.R_new' (Kd.R_new' ho0 (Kd.R_lt (by (with_reducible repeat (first | apply Kd.R_alloc | apply Kd.R_drewN | apply Kd.R_drew)); exact (Kd.R_mono (Kd.R_far (p := ⟨gb225, 2, none⟩) (Kd.R_far (p := ⟨gb225, 1, none⟩) (Kd.R_far (p := ⟨gb225, 0, none⟩) (Kd.R_mono HO218.out (fun k_ hk => (⟨hk, hk.2⟩ : _ ∧ k_ ≠ gb225))) (fun _ hk => hk.2) (.int .i64 1)) (fun _ hk => hk.2) (.int .i64 100)) (fun _ hk => hk.2) (.int .i64 1500)) (fun _ h_ => h_.1))))) (Kd.R_lt (by (with_reducible repeat (first | apply Kd.R_alloc | apply Kd.R_drewN | apply Kd.R_drew)); exact (Kd.R_mono (Kd.R_far (p := ⟨gb225, 2, none⟩) (Kd.R_far (p := ⟨gb225, 1, none⟩) (Kd.R_far (p := ⟨gb225, 0, none⟩) (Kd.R_mono HO220.out (fun k_ hk => (⟨hk, hk.2⟩ : _ ∧ k_ ≠ gb225))) (fun _ hk => hk.2) (.int .i64 1)) (fun _ hk => hk.2) (.int .i64 100)) (fun _ hk => hk.2) (.int .i64 1500)) (fun _ h_ => h_.1))))) (Kd.R_lt (by (with_reducible repeat (first | apply Kd.R_alloc | apply Kd.R_drewN | apply Kd.R_drew)); exact (Kd.R_mono (Kd.R_far (p := ⟨gb225, 2, none⟩) (Kd.R_far (p := ⟨gb225, 1, none⟩) (Kd.R_far (p := ⟨gb225, 0, none⟩) (Kd.R_mono HO222.out (fun k_ hk => (⟨hk, hk.2⟩ : _ ∧ k_ ≠ gb225))) (fun _ hk => hk.2) (.int .i64 1)) (fun _ hk => hk.2) (.int .i64 100)) (fun _ hk => hk.2) (.int .i64 1500)) (fun _ h_ => h_.1))))) (Kd.R_lt (by (with_reducible repeat (first | apply Kd.R_alloc | apply Kd.R_drewN | apply Kd.R_drew)); exact (Kd.R_mono (Kd.R_far (p := ⟨gb225, 2, none⟩) (Kd.R_far (p := ⟨gb225, 1, none⟩) (Kd.R_far (p := ⟨gb225, 0, none⟩) (Kd.R_mono HO224.out (fun k_ hk => (⟨hk, hk.2⟩ : _ ∧ k_ ≠ gb225))) (fun _ hk => hk.2) (.int .i64 1)) (fun _ hk => hk.2) (.int .i64 100)) (fun _ hk => hk.2) (.int .i64 1500)) (fun _ h_ => h_.1))))) (g := gb225) (o := .cells #[.int .i64 1, .int .i64 100, .int .i64 1500] 26 (0, 0)) (by (with_reducible repeat first | apply bN | apply bD | apply bA); refine blk_put (cs := #[.int .i64 1, .int .i64 100, .int .i64 0]) ?_ 2 _ rfl; (with_reducible repeat first | apply bN | apply bD | apply bA); refine blk_put (cs := #[.int .i64 1, .int .i64 0, .int .i64 0]) ?_ 1 _ rfl; (with_reducible repeat first | apply bN | apply bD | apply bA); refine blk_put (cs := #[.int .i64 0, .int .i64 0, .int .i64 0]) ?_ 0 _ rfl; (with_reducible repeat first | apply bN | apply bD | apply bA); exact BK225.out)) (below_size (eG HB.out))); have n5_ := Aside0.mk (blk_below (g := gb225) (o := .cells #[.int .i64 1, .int .i64 100, .int .i64 1500] 26 (0, 0)) (by (with_reducible repeat first | apply bN | apply bD | apply bA); refine blk_put (cs := #[.int .i64 1, .int .i64 100, .int .i64 0]) ?_ 2 _ rfl; (with_reducible repeat first | apply bN | apply bD | apply bA); refine blk_put (cs := #[.int .i64 1, .int .i64 0, .int .i64 0]) ?_ 1 _ rfl; (with_reducible repeat first | apply bN | apply bD | apply bA); refine blk_put (cs := #[.int .i64 0, .int .i64 0, .int .i64 0]) ?_ 0 _ rfl; (with_reducible repeat first | apply bN | apply bD | apply bA); exact BK225.out) hb); have n6_ := Aside0.mk (below_step (eG HB.out) hb); clear HO218; clear HO220; clear HO222; clear HO224; clear BK225; clear HB; have HO218 := n0_; have HO220 := n1_; have HO222 := n2_; have HO224 := n3_; have HO227 := n4_; have BK225 := n5_; have HB := n6_; clear n0_ n1_ n2_ n3_ n4_ n5_ n6_; (try clear hb); (try clear hb2); (try clear hk); (try clear hi); (try clear ho0); obtain ⟨Ao40, co40, eo40⟩ := Kd.R_slice HO227.out; subst eo40) | ((with_reducible refine gate_callee (f := 23) rfl ?_); refine goesL_ (some 44) rfl rfl Tryz.func23 (by kernel_rfl) rfl #[.agg #[.int .i64 3, .slice Ao40 [(⟨1, 0, 1000⟩ : S26), (⟨1, 100, 1500⟩ : S26)].length co40], .int .i64 1, .int .i64 50, .int .i64 100] rfl (by (try simp only [List.map_toArray, List.map_cons, List.map_nil]); first | done | rfl | (simp only [List.length_drop, List.length_take]; rfl)) ?_; (with_reducible refine (tariff_Changes.calls 400 3 _ _ [(⟨1, 0, 1000⟩ : S26), (⟨1, 100, 1500⟩ : S26)] 1 50 100 ([100] : List Int) 0 _ ?side1 ?side2 A10.out).mono ?_); (case side1 => repeat (first | exact (Kd.R_reads' HO227.out).2.2 | (with_reducible refine Kd.C_alloc ?_ _) | (with_reducible refine Kd.C_drewN ?_ _) | (with_reducible refine Kd.C_drew ?_))); (case side2 => exact (Kd.R_reads' HO227.out).2.1); rintro e w41 ⟨v228, rfl, ho0, hb⟩; refine ⟨_, rfl, ?_⟩; have n0_ := Aside0.mk (Kd.R_below (rG HO218.out) hb); have n1_ := Aside0.mk (Kd.R_below (rG HO220.out) hb); have n2_ := Aside0.mk (Kd.R_below (rG HO222.out) hb); have n3_ := Aside0.mk (Kd.R_below (rG HO224.out) hb); have n4_ := Aside0.mk (Kd.R_below (rG HO227.out) hb); have n5_ := Aside0.mk (Kd.R_lower ho0 (below_size (eG HB.out))); have n6_ := Aside0.mk (blk_below (bG BK225.out) hb); have n7_ := Aside0.mk (below_step (eG HB.out) hb); clear HO218; clear HO220; clear HO222; clear HO224; clear HO227; clear BK225; clear HB; have HO218 := n0_; have HO220 := n1_; have HO222 := n2_; have HO224 := n3_; have HO227 := n4_; have HO229 := n5_; have BK225 := n6_; have HB := n7_; clear n0_ n1_ n2_ n3_ n4_ n5_ n6_ n7_; (try clear hb); (try clear hb2); (try clear hk); (try clear hi); (try clear ho0)) | ((with_reducible refine gate_callee (f := 34) rfl ?_); refine goesL_ (some 48) rfl rfl Tryz.func34 (by kernel_rfl) rfl #[] rfl (by (try simp only [List.map_toArray, List.map_cons, List.map_nil]); first | done | rfl | (simp only [List.length_drop, List.length_take]; rfl)) ?_; (with_reducible refine (spilelaw46_example.calls  3 [(⟨1, 0, 1000⟩ : S26), (⟨1, 100, 1500⟩ : S26)] _ A11.out).mono ?_); rintro e w42 ⟨v230, rfl, ho0, hb⟩; refine ⟨_, rfl, ?_⟩; have n0_ := Aside0.mk (Kd.R_elder' (rG HO218.out) (Kd.R_base ho0) hb); have n1_ := Aside0.mk (Kd.R_elder' (rG HO220.out) (Kd.R_base ho0) hb); have n2_ := Aside0.mk (Kd.R_elder' (rG HO222.out) (Kd.R_base ho0) hb); have n3_ := Aside0.mk (Kd.R_elder' (rG HO224.out) (Kd.R_base ho0) hb); have n4_ := Aside0.mk (Kd.R_elder' (rG HO227.out) (Kd.R_base ho0) hb); have n5_ := Aside0.mk (Kd.R_below (rG HO229.out) hb); have n6_ := Aside0.mk (Kd.R_lower (Kd.R_newB (Kd.R_new' (Kd.R_new' (Kd.R_new' (Kd.R_new' (Kd.R_new' ho0 (Kd.R_lt (rG HO218.out))) (Kd.R_lt (rG HO220.out))) (Kd.R_lt (rG HO222.out))) (Kd.R_lt (rG HO224.out))) (Kd.R_lt (rG HO227.out))) (bG BK225.out)) (below_size (eG HB.out))); have n7_ := Aside0.mk (blk_below (bG BK225.out) hb); have n8_ := Aside0.mk (below_step (eG HB.out) hb); clear HO218; clear HO220; clear HO222; clear HO224; clear HO227; clear HO229; clear BK225; clear HB; have HO218 := n0_; have HO220 := n1_; have HO222 := n2_; have HO224 := n3_; have HO227 := n4_; have HO229 := n5_; have HO231 := n6_; have BK225 := n7_; have HB := n8_; clear n0_ n1_ n2_ n3_ n4_ n5_ n6_ n7_ n8_; (try clear hb); (try clear hb2); (try clear hk); (try clear hi); (try clear ho0); obtain ⟨Ao43, co43, eo43⟩ := Kd.R_slice HO231.out; subst eo43) | ((with_reducible refine gate_callee (f := 28) rfl ?_); refine goesL_ (some 49) rfl rfl Tryz.func28 (by kernel_rfl) rfl #[.agg #[.int .i64 3, .slice Ao43 [(⟨1, 0, 1000⟩ : S26), (⟨1, 100, 1500⟩ : S26)].length co43]] rfl (by (try simp only [List.map_toArray, List.map_cons, List.map_nil]); first | done | rfl | (simp only [List.length_drop, List.length_take]; rfl)) ?_; (with_reducible refine (tariff_Print.calls 400 3 _ _ [(⟨1, 0, 1000⟩ : S26), (⟨1, 100, 1500⟩ : S26)] (⟨#[114, 111, 117, 110, 100, 105, 110, 103, 32, 104, 97, 108, 102, 45, 117, 112, 10, 99, 108, 97, 115, 115, 32, 49, 32, 102, 114, 111, 109, 32, 48, 32, 97, 116, 32, 49, 48, 48, 48, 10, 99, 108, 97, 115, 115, 32, 49, 32, 102, 114, 111, 109, 32, 49, 48, 48, 32, 97, 116, 32, 49, 53, 48, 48, 10]⟩ : ByteArray) 0 _ ?side1 ?side2 ?side3 A12.out).mono ?_); (case side1 => repeat (first | exact (Kd.R_reads' HO231.out).2.2 | (with_reducible refine Kd.C_alloc ?_ _) | (with_reducible refine Kd.C_drewN ?_ _) | (with_reducible refine Kd.C_drew ?_))); (case side2 => exact (Kd.R_reads' HO231.out).2.1); (case side3 => exact GI.below HG.out (eG HB.out)); rintro e w44 ⟨rfl, hb⟩; refine ⟨_, rfl, ?_⟩; have n0_ := Aside0.mk (Kd.R_below (rG HO218.out) hb); have n1_ := Aside0.mk (Kd.R_below (rG HO220.out) hb); have n2_ := Aside0.mk (Kd.R_below (rG HO222.out) hb); have n3_ := Aside0.mk (Kd.R_below (rG HO224.out) hb); have n4_ := Aside0.mk (Kd.R_below (rG HO227.out) hb); have n5_ := Aside0.mk (Kd.R_below (rG HO229.out) hb); have n6_ := Aside0.mk (Kd.R_below (rG HO231.out) hb); have n7_ := Aside0.mk (blk_below (bG BK225.out) hb); have n8_ := Aside0.mk (below_step (eG HB.out) hb); clear HO218; clear HO220; clear HO222; clear HO224; clear HO227; clear HO229; clear HO231; clear BK225; clear HB; have HO218 := n0_; have HO220 := n1_; have HO222 := n2_; have HO224 := n3_; have HO227 := n4_; have HO229 := n5_; have HO231 := n6_; have BK225 := n7_; have HB := n8_; clear n0_ n1_ n2_ n3_ n4_ n5_ n6_ n7_ n8_; (try clear hb); (try clear hb2); (try clear hk); (try clear hi)) | ((with_reducible refine gate_callee (f := 30) rfl ?_); refine goesL_ (some 53) rfl rfl Tryz.func30 (by kernel_rfl) rfl #[.string (⟨#[114, 111, 117, 110, 100, 105, 110, 103, 32, 117, 112, 10, 99, 108, 97, 115, 115, 32, 50, 32, 102, 114, 111, 109, 32, 55, 32, 97, 116, 32, 57, 10]⟩ : ByteArray)] rfl (by (try simp only [List.map_toArray, List.map_cons, List.map_nil]); first | done | rfl | (simp only [List.length_drop, List.length_take]; rfl)) ?_; (with_reducible refine (tariff_Parse.calls 400 (⟨#[114, 111, 117, 110, 100, 105, 110, 103, 32, 117, 112, 10, 99, 108, 97, 115, 115, 32, 50, 32, 102, 114, 111, 109, 32, 55, 32, 97, 116, 32, 57, 10]⟩ : ByteArray) 2 [(⟨2, 7, 9⟩ : S26)] (-1) 0 _ ?side1 A13.out).mono ?_); (case side1 => exact GI.below HG.out (eG HB.out)); rintro e w45 ⟨v232, rfl, ho0, hb⟩; refine ⟨_, rfl, ?_⟩; have n0_ := Aside0.mk (Kd.R_elder' (rG HO218.out) (Kd.R_base ho0) hb); have n1_ := Aside0.mk (Kd.R_elder' (rG HO220.out) (Kd.R_base ho0) hb); have n2_ := Aside0.mk (Kd.R_elder' (rG HO222.out) (Kd.R_base ho0) hb); have n3_ := Aside0.mk (Kd.R_elder' (rG HO224.out) (Kd.R_base ho0) hb); have n4_ := Aside0.mk (Kd.R_elder' (rG HO227.out) (Kd.R_base ho0) hb); have n5_ := Aside0.mk (Kd.R_below (rG HO229.out) hb); have n6_ := Aside0.mk (Kd.R_elder' (rG HO231.out) (Kd.R_base ho0) hb); have n7_ := Aside0.mk (Kd.R_lower (Kd.R_newB (Kd.R_new' (Kd.R_new' (Kd.R_new' (Kd.R_new' (Kd.R_new' (Kd.R_new' ho0 (Kd.R_lt (rG HO218.out))) (Kd.R_lt (rG HO220.out))) (Kd.R_lt (rG HO222.out))) (Kd.R_lt (rG HO224.out))) (Kd.R_lt (rG HO227.out))) (Kd.R_lt (rG HO231.out))) (bG BK225.out)) (below_size (eG HB.out))); have n8_ := Aside0.mk (blk_below (bG BK225.out) hb); have n9_ := Aside0.mk (below_step (eG HB.out) hb); clear HO218; clear HO220; clear HO222; clear HO224; clear HO227; clear HO229; clear HO231; clear BK225; clear HB; have HO218 := n0_; have HO220 := n1_; have HO222 := n2_; have HO224 := n3_; have HO227 := n4_; have HO229 := n5_; have HO231 := n6_; have HO233 := n7_; have BK225 := n8_; have HB := n9_; clear n0_ n1_ n2_ n3_ n4_ n5_ n6_ n7_ n8_ n9_; (try clear hb); (try clear hb2); (try clear hk); (try clear hi); (try clear ho0)) | ((with_reducible refine gate_dst (N := 13) rfl ?_); (try (refine gate_guard (by rfl) ?_; dsimp only)); refine box_event ?hg (N := 13) ?hd (cs := #[.int .i64 0, .slice none 0 0]) (t := 24) ?hr ?_; (case hd => rfl); (case hg => rfl); (case hr => first | (go_simp; done) | (go_simp; rfl)); intro gb234 hg w46 hbox hb; have n0_ := Aside0.mk (Kd.R_below (rG HO218.out) hb); have n1_ := Aside0.mk (Kd.R_below (rG HO220.out) hb); have n2_ := Aside0.mk (Kd.R_below (rG HO222.out) hb); have n3_ := Aside0.mk (Kd.R_below (rG HO224.out) hb); have n4_ := Aside0.mk (Kd.R_below (rG HO227.out) hb); have n5_ := Aside0.mk (Kd.R_below (rG HO229.out) hb); have n6_ := Aside0.mk (Kd.R_below (rG HO231.out) hb); have n7_ := Aside0.mk (Kd.R_below (rG HO233.out) hb); have n8_ := Aside0.mk (blk_below (bG BK225.out) hb); have n9_ := Aside0.mk (below_step (eG HB.out) hb); have n10_ := Aside0.mk (hbox); have n11_ := Aside0.mk ((by rw [hg]; exact (below_size (eG HB.out)) : w.heap.size ≤ gb234)); have n12_ := Aside0.mk ((by rw [hg]; exact (below_size (eG HB.out)) : w.heap.size ≤ gb234)); have n13_ := Aside0.mk ((by rw [hg]; exact Nat.ne_of_lt (blk_lt (bG BK225.out)) : gb225 ≠ gb234)); have n14_ := Aside0.mk ((by rw [hg]; exact Nat.ne_of_gt (blk_lt (bG BK225.out)) : gb234 ≠ gb225)); clear HO218; clear HO220; clear HO222; clear HO224; clear HO227; clear HO229; clear HO231; clear HO233; clear BK225; clear HB; have HO218 := n0_; have HO220 := n1_; have HO222 := n2_; have HO224 := n3_; have HO227 := n4_; have HO229 := n5_; have HO231 := n6_; have HO233 := n7_; have BK225 := n8_; have HB := n9_; have BK234 := n10_; have GW234 := n11_; have GE234 := n12_; have ig234_ := geI GE234; have NB225_234 := n13_; have NB234_225 := n14_; clear n0_ n1_ n2_ n3_ n4_ n5_ n6_ n7_ n8_ n9_ n10_ n11_ n12_ n13_ n14_; clear hb hbox hg; have hnb47 := NB234_225.out; have hnc47 := NB225_234.out; have hcz48_0 : w46.cell? ⟨gb234, 0, none⟩ = some (.int .i64 0) := (blk_cell BK234.out 0).trans rfl; have hcz48_1 : w46.cell? ⟨gb234, 1, none⟩ = some (.slice none 0 0) := (blk_cell BK234.out 1).trans rfl; have hfz48_0 := blk_frozen BK234.out 0; have hfz48_1 := blk_frozen BK234.out 1; obtain ⟨Ao49, co49, eo49⟩ := Kd.R_slice HO233.out; subst eo49) | ((with_reducible refine gate_callee (f := 34) rfl ?_); refine goesL_ (some 58) rfl rfl Tryz.func34 (by kernel_rfl) rfl #[] rfl (by (try simp only [List.map_toArray, List.map_cons, List.map_nil]); first | done | rfl | (simp only [List.length_drop, List.length_take]; rfl)) ?_; (with_reducible refine (spilelaw46_example.calls  3 [(⟨1, 0, 1000⟩ : S26), (⟨1, 100, 1500⟩ : S26)] _ A14.out).mono ?_); rintro e w50 ⟨v235, rfl, ho0, hb⟩; refine ⟨_, rfl, ?_⟩; have n0_ := Aside0.mk (Kd.R_elder' (by (with_reducible repeat (first | apply Kd.R_alloc | apply Kd.R_drewN | apply Kd.R_drew)); exact (Kd.R_mono (Kd.R_far (p := ⟨gb234, 1, none⟩) (Kd.R_far (p := ⟨gb234, 0, none⟩) (Kd.R_types HO218.out BK234.out (by decide)) (fun _ hk => hk.2) (.int .i64 2)) (fun _ hk => hk.2) (.slice Ao49 [(⟨2, 7, 9⟩ : S26)].length co49)) (fun _ h_ => h_.1))) (Kd.R_base ho0) hb); have n1_ := Aside0.mk (Kd.R_elder' (by (with_reducible repeat (first | apply Kd.R_alloc | apply Kd.R_drewN | apply Kd.R_drew)); exact (Kd.R_mono (Kd.R_far (p := ⟨gb234, 1, none⟩) (Kd.R_far (p := ⟨gb234, 0, none⟩) (Kd.R_types HO220.out BK234.out (by decide)) (fun _ hk => hk.2) (.int .i64 2)) (fun _ hk => hk.2) (.slice Ao49 [(⟨2, 7, 9⟩ : S26)].length co49)) (fun _ h_ => h_.1))) (Kd.R_base ho0) hb); have n2_ := Aside0.mk (Kd.R_elder' (by (with_reducible repeat (first | apply Kd.R_alloc | apply Kd.R_drewN | apply Kd.R_drew)); exact (Kd.R_mono (Kd.R_far (p := ⟨gb234, 1, none⟩) (Kd.R_far (p := ⟨gb234, 0, none⟩) (Kd.R_types HO222.out BK234.out (by decide)) (fun _ hk => hk.2) (.int .i64 2)) (fun _ hk => hk.2) (.slice Ao49 [(⟨2, 7, 9⟩ : S26)].length co49)) (fun _ h_ => h_.1))) (Kd.R_base ho0) hb); have n3_ := Aside0.mk (Kd.R_elder' (by (with_reducible repeat (first | apply Kd.R_alloc | apply Kd.R_drewN | apply Kd.R_drew)); exact (Kd.R_mono (Kd.R_far (p := ⟨gb234, 1, none⟩) (Kd.R_far (p := ⟨gb234, 0, none⟩) (Kd.R_types HO224.out BK234.out (by decide)) (fun _ hk => hk.2) (.int .i64 2)) (fun _ hk => hk.2) (.slice Ao49 [(⟨2, 7, 9⟩ : S26)].length co49)) (fun _ h_ => h_.1))) (Kd.R_base ho0) hb); have n4_ := Aside0.mk (Kd.R_elder' (by (with_reducible repeat (first | apply Kd.R_alloc | apply Kd.R_drewN | apply Kd.R_drew)); exact (Kd.R_mono (Kd.R_far (p := ⟨gb234, 1, none⟩) (Kd.R_far (p := ⟨gb234, 0, none⟩) (Kd.R_types HO227.out BK234.out (by decide)) (fun _ hk => hk.2) (.int .i64 2)) (fun _ hk => hk.2) (.slice Ao49 [(⟨2, 7, 9⟩ : S26)].length co49)) (fun _ h_ => h_.1))) (Kd.R_base ho0) hb); have n5_ := Aside0.mk (Kd.R_below (by (with_reducible repeat (first | apply Kd.R_alloc | apply Kd.R_drewN | apply Kd.R_drew)); exact (Kd.R_mono (Kd.R_far (p := ⟨gb234, 1, none⟩) (Kd.R_far (p := ⟨gb234, 0, none⟩) (Kd.R_types HO229.out BK234.out (by decide)) (fun _ hk => hk.2) (.int .i64 2)) (fun _ hk => hk.2) (.slice Ao49 [(⟨2, 7, 9⟩ : S26)].length co49)) (fun _ h_ => h_.1))) hb); have n6_ := Aside0.mk (Kd.R_elder' (by (with_reducible repeat (first | apply Kd.R_alloc | apply Kd.R_drewN | apply Kd.R_drew)); exact (Kd.R_mono (Kd.R_far (p := ⟨gb234, 1, none⟩) (Kd.R_far (p := ⟨gb234, 0, none⟩) (Kd.R_types HO231.out BK234.out (by decide)) (fun _ hk => hk.2) (.int .i64 2)) (fun _ hk => hk.2) (.slice Ao49 [(⟨2, 7, 9⟩ : S26)].length co49)) (fun _ h_ => h_.1))) (Kd.R_base ho0) hb); have n7_ := Aside0.mk (Kd.R_elder' (by (with_reducible repeat (first | apply Kd.R_alloc | apply Kd.R_drewN | apply Kd.R_drew)); exact (Kd.R_mono (Kd.R_far (p := ⟨gb234, 1, none⟩) (Kd.R_far (p := ⟨gb234, 0, none⟩) (Kd.R_types HO233.out BK234.out (by decide)) (fun _ hk => hk.2) (.int .i64 2)) (fun _ hk => hk.2) (.slice Ao49 [(⟨2, 7, 9⟩ : S26)].length co49)) (fun _ h_ => h_.1))) (Kd.R_base ho0) hb); have n8_ := Aside0.mk (Kd.R_lower (Kd.R_newB (Kd.R_new' (Kd.R_new' (Kd.R_new' (Kd.R_new' (Kd.R_new' (Kd.R_new' (Kd.R_new' ho0 (Kd.R_lt (by (with_reducible repeat (first | apply Kd.R_alloc | apply Kd.R_drewN | apply Kd.R_drew)); exact (Kd.R_mono (Kd.R_far (p := ⟨gb234, 1, none⟩) (Kd.R_far (p := ⟨gb234, 0, none⟩) (Kd.R_types HO218.out BK234.out (by decide)) (fun _ hk => hk.2) (.int .i64 2)) (fun _ hk => hk.2) (.slice Ao49 [(⟨2, 7, 9⟩ : S26)].length co49)) (fun _ h_ => h_.1))))) (Kd.R_lt (by (with_reducible repeat (first | apply Kd.R_alloc | apply Kd.R_drewN | apply Kd.R_drew)); exact (Kd.R_mono (Kd.R_far (p := ⟨gb234, 1, none⟩) (Kd.R_far (p := ⟨gb234, 0, none⟩) (Kd.R_types HO220.out BK234.out (by decide)) (fun _ hk => hk.2) (.int .i64 2)) (fun _ hk => hk.2) (.slice Ao49 [(⟨2, 7, 9⟩ : S26)].length co49)) (fun _ h_ => h_.1))))) (Kd.R_lt (by (with_reducible repeat (first | apply Kd.R_alloc | apply Kd.R_drewN | apply Kd.R_drew)); exact (Kd.R_mono (Kd.R_far (p := ⟨gb234, 1, none⟩) (Kd.R_far (p := ⟨gb234, 0, none⟩) (Kd.R_types HO222.out BK234.out (by decide)) (fun _ hk => hk.2) (.int .i64 2)) (fun _ hk => hk.2) (.slice Ao49 [(⟨2, 7, 9⟩ : S26)].length co49)) (fun _ h_ => h_.1))))) (Kd.R_lt (by (with_reducible repeat (first | apply Kd.R_alloc | apply Kd.R_drewN | apply Kd.R_drew)); exact (Kd.R_mono (Kd.R_far (p := ⟨gb234, 1, none⟩) (Kd.R_far (p := ⟨gb234, 0, none⟩) (Kd.R_types HO224.out BK234.out (by decide)) (fun _ hk => hk.2) (.int .i64 2)) (fun _ hk => hk.2) (.slice Ao49 [(⟨2, 7, 9⟩ : S26)].length co49)) (fun _ h_ => h_.1))))) (Kd.R_lt (by (with_reducible repeat (first | apply Kd.R_alloc | apply Kd.R_drewN | apply Kd.R_drew)); exact (Kd.R_mono (Kd.R_far (p := ⟨gb234, 1, none⟩) (Kd.R_far (p := ⟨gb234, 0, none⟩) (Kd.R_types HO227.out BK234.out (by decide)) (fun _ hk => hk.2) (.int .i64 2)) (fun _ hk => hk.2) (.slice Ao49 [(⟨2, 7, 9⟩ : S26)].length co49)) (fun _ h_ => h_.1))))) (Kd.R_lt (by (with_reducible repeat (first | apply Kd.R_alloc | apply Kd.R_drewN | apply Kd.R_drew)); exact (Kd.R_mono (Kd.R_far (p := ⟨gb234, 1, none⟩) (Kd.R_far (p := ⟨gb234, 0, none⟩) (Kd.R_types HO231.out BK234.out (by decide)) (fun _ hk => hk.2) (.int .i64 2)) (fun _ hk => hk.2) (.slice Ao49 [(⟨2, 7, 9⟩ : S26)].length co49)) (fun _ h_ => h_.1))))) (Kd.R_lt (by (with_reducible repeat (first | apply Kd.R_alloc | apply Kd.R_drewN | apply Kd.R_drew)); exact (Kd.R_mono (Kd.R_far (p := ⟨gb234, 1, none⟩) (Kd.R_far (p := ⟨gb234, 0, none⟩) (Kd.R_types HO233.out BK234.out (by decide)) (fun _ hk => hk.2) (.int .i64 2)) (fun _ hk => hk.2) (.slice Ao49 [(⟨2, 7, 9⟩ : S26)].length co49)) (fun _ h_ => h_.1))))) (g := gb225) (o := .cells #[.int .i64 1, .int .i64 100, .int .i64 1500] 26 (0, 0)) (by (with_reducible repeat first | apply bN | apply bD | apply bA); refine blk_far ?_ NB225_234.out _; (with_reducible repeat first | apply bN | apply bD | apply bA); refine blk_far ?_ NB225_234.out _; (with_reducible repeat first | apply bN | apply bD | apply bA); exact BK225.out)) (below_size (eG HB.out))); have n9_ := Aside0.mk (blk_below (g := gb225) (o := .cells #[.int .i64 1, .int .i64 100, .int .i64 1500] 26 (0, 0)) (by (with_reducible repeat first | apply bN | apply bD | apply bA); refine blk_far ?_ NB225_234.out _; (with_reducible repeat first | apply bN | apply bD | apply bA); refine blk_far ?_ NB225_234.out _; (with_reducible repeat first | apply bN | apply bD | apply bA); exact BK225.out) hb); have n10_ := Aside0.mk (blk_below (g := gb234) (o := .cells #[.int .i64 2, .slice Ao49 [(⟨2, 7, 9⟩ : S26)].length co49] 24 (0, 0)) (by (with_reducible repeat first | apply bN | apply bD | apply bA); refine blk_put (cs := #[.int .i64 2, .slice none 0 0]) ?_ 1 _ rfl; (with_reducible repeat first | apply bN | apply bD | apply bA); refine blk_put (cs := #[.int .i64 0, .slice none 0 0]) ?_ 0 _ rfl; (with_reducible repeat first | apply bN | apply bD | apply bA); exact BK234.out) hb); have n11_ := Aside0.mk (below_step (eG HB.out) hb); clear HO218; clear HO220; clear HO222; clear HO224; clear HO227; clear HO229; clear HO231; clear HO233; clear BK225; clear BK234; clear HB; have HO218 := n0_; have HO220 := n1_; have HO222 := n2_; have HO224 := n3_; have HO227 := n4_; have HO229 := n5_; have HO231 := n6_; have HO233 := n7_; have HO236 := n8_; have BK225 := n9_; have BK234 := n10_; have HB := n11_; clear n0_ n1_ n2_ n3_ n4_ n5_ n6_ n7_ n8_ n9_ n10_ n11_; (try clear hb); (try clear hb2); (try clear hk); (try clear hi); (try clear ho0); obtain ⟨Ao51, co51, eo51⟩ := Kd.R_slice HO236.out; subst eo51) | ((with_reducible refine gate_callee (f := 16) rfl ?_); refine goesL_ (some 60) rfl rfl Tryz.func16 (by kernel_rfl) rfl #[.agg #[.int .i64 3, .slice Ao51 [(⟨1, 0, 1000⟩ : S26), (⟨1, 100, 1500⟩ : S26)].length co51], .agg #[.int .i64 1, .int .i64 50, .int .i64 7]] rfl (by (try simp only [List.map_toArray, List.map_cons, List.map_nil]); first | done | rfl | (simp only [List.length_drop, List.length_take]; rfl)) ?_; (with_reducible refine (tariff_Insert.calls 400 3 _ _ [(⟨1, 0, 1000⟩ : S26), (⟨1, 100, 1500⟩ : S26)] 1 50 7 3 [(⟨1, 0, 1000⟩ : S26), (⟨1, 50, 7⟩ : S26), (⟨1, 100, 1500⟩ : S26)] 0 _ ?side1 ?side2 A15.out).mono ?_); (case side1 => repeat (first | exact (Kd.R_reads' HO236.out).2.2 | (with_reducible refine Kd.C_alloc ?_ _) | (with_reducible refine Kd.C_drewN ?_ _) | (with_reducible refine Kd.C_drew ?_))); (case side2 => exact (Kd.R_reads' HO236.out).2.1); rintro e w52 ⟨v237, rfl, ho0, hb⟩; refine ⟨_, rfl, ?_⟩; have n0_ := Aside0.mk (Kd.R_elder' (rG HO218.out) (Kd.R_base ho0) hb); have n1_ := Aside0.mk (Kd.R_elder' (rG HO220.out) (Kd.R_base ho0) hb); have n2_ := Aside0.mk (Kd.R_elder' (rG HO222.out) (Kd.R_base ho0) hb); have n3_ := Aside0.mk (Kd.R_elder' (rG HO224.out) (Kd.R_base ho0) hb); have n4_ := Aside0.mk (Kd.R_elder' (rG HO227.out) (Kd.R_base ho0) hb); have n5_ := Aside0.mk (Kd.R_below (rG HO229.out) hb); have n6_ := Aside0.mk (Kd.R_elder' (rG HO231.out) (Kd.R_base ho0) hb); have n7_ := Aside0.mk (Kd.R_elder' (rG HO233.out) (Kd.R_base ho0) hb); have n8_ := Aside0.mk (Kd.R_elder' (rG HO236.out) (Kd.R_base ho0) hb); have n9_ := Aside0.mk (Kd.R_lower (Kd.R_newB (Kd.R_new' (Kd.R_new' (Kd.R_new' (Kd.R_new' (Kd.R_new' (Kd.R_new' (Kd.R_new' (Kd.R_new' ho0 (Kd.R_lt (rG HO218.out))) (Kd.R_lt (rG HO220.out))) (Kd.R_lt (rG HO222.out))) (Kd.R_lt (rG HO224.out))) (Kd.R_lt (rG HO227.out))) (Kd.R_lt (rG HO231.out))) (Kd.R_lt (rG HO233.out))) (Kd.R_lt (rG HO236.out))) (bG BK225.out)) (below_size (eG HB.out))); have n10_ := Aside0.mk (blk_below (bG BK225.out) hb); have n11_ := Aside0.mk (blk_below (bG BK234.out) hb); have n12_ := Aside0.mk (below_step (eG HB.out) hb); clear HO218; clear HO220; clear HO222; clear HO224; clear HO227; clear HO229; clear HO231; clear HO233; clear HO236; clear BK225; clear BK234; clear HB; have HO218 := n0_; have HO220 := n1_; have HO222 := n2_; have HO224 := n3_; have HO227 := n4_; have HO229 := n5_; have HO231 := n6_; have HO233 := n7_; have HO236 := n8_; have HO238 := n9_; have BK225 := n10_; have BK234 := n11_; have HB := n12_; clear n0_ n1_ n2_ n3_ n4_ n5_ n6_ n7_ n8_ n9_ n10_ n11_ n12_; (try clear hb); (try clear hb2); (try clear hk); (try clear hi); (try clear ho0)) | ((with_reducible refine gate_dst (N := 16) rfl ?_); (try (refine gate_guard (by rfl) ?_; dsimp only)); refine box_event ?hg (N := 16) ?hd (cs := #[.int .i64 0, .slice none 0 0]) (t := 24) ?hr ?_; (case hd => rfl); (case hg => rfl); (case hr => first | (go_simp; done) | (go_simp; rfl)); intro gb239 hg w53 hbox hb; have n0_ := Aside0.mk (Kd.R_below (rG HO218.out) hb); have n1_ := Aside0.mk (Kd.R_below (rG HO220.out) hb); have n2_ := Aside0.mk (Kd.R_below (rG HO222.out) hb); have n3_ := Aside0.mk (Kd.R_below (rG HO224.out) hb); have n4_ := Aside0.mk (Kd.R_below (rG HO227.out) hb); have n5_ := Aside0.mk (Kd.R_below (rG HO229.out) hb); have n6_ := Aside0.mk (Kd.R_below (rG HO231.out) hb); have n7_ := Aside0.mk (Kd.R_below (rG HO233.out) hb); have n8_ := Aside0.mk (Kd.R_below (rG HO236.out) hb); have n9_ := Aside0.mk (Kd.R_below (rG HO238.out) hb); have n10_ := Aside0.mk (blk_below (bG BK225.out) hb); have n11_ := Aside0.mk (blk_below (bG BK234.out) hb); have n12_ := Aside0.mk (below_step (eG HB.out) hb); have n13_ := Aside0.mk (hbox); have n14_ := Aside0.mk ((by rw [hg]; exact (below_size (eG HB.out)) : w.heap.size ≤ gb239)); have n15_ := Aside0.mk ((by rw [hg]; exact (below_size (eG HB.out)) : w.heap.size ≤ gb239)); have n16_ := Aside0.mk ((by rw [hg]; exact Nat.ne_of_lt (blk_lt (bG BK225.out)) : gb225 ≠ gb239)); have n17_ := Aside0.mk ((by rw [hg]; exact Nat.ne_of_gt (blk_lt (bG BK225.out)) : gb239 ≠ gb225)); have n18_ := Aside0.mk ((by rw [hg]; exact Nat.ne_of_lt (blk_lt (bG BK234.out)) : gb234 ≠ gb239)); have n19_ := Aside0.mk ((by rw [hg]; exact Nat.ne_of_gt (blk_lt (bG BK234.out)) : gb239 ≠ gb234)); clear HO218; clear HO220; clear HO222; clear HO224; clear HO227; clear HO229; clear HO231; clear HO233; clear HO236; clear HO238; clear BK225; clear BK234; clear HB; have HO218 := n0_; have HO220 := n1_; have HO222 := n2_; have HO224 := n3_; have HO227 := n4_; have HO229 := n5_; have HO231 := n6_; have HO233 := n7_; have HO236 := n8_; have HO238 := n9_; have BK225 := n10_; have BK234 := n11_; have HB := n12_; have BK239 := n13_; have GW239 := n14_; have GE239 := n15_; have ig239_ := geI GE239; have NB225_239 := n16_; have NB239_225 := n17_; have NB234_239 := n18_; have NB239_234 := n19_; clear n0_ n1_ n2_ n3_ n4_ n5_ n6_ n7_ n8_ n9_ n10_ n11_ n12_ n13_ n14_ n15_ n16_ n17_ n18_ n19_; clear hb hbox hg; have hnb54 := NB239_225.out; have hnc54 := NB225_239.out; have hnb55 := NB239_234.out; have hnc55 := NB234_239.out; have hcz56_0 : w53.cell? ⟨gb239, 0, none⟩ = some (.int .i64 0) := (blk_cell BK239.out 0).trans rfl; have hcz56_1 : w53.cell? ⟨gb239, 1, none⟩ = some (.slice none 0 0) := (blk_cell BK239.out 1).trans rfl; have hfz56_0 := blk_frozen BK239.out 0; have hfz56_1 := blk_frozen BK239.out 1; obtain ⟨Ao57, co57, eo57⟩ := Kd.R_slice HO238.out; subst eo57) | ((with_reducible refine gate_callee (f := 34) rfl ?_); refine goesL_ (some 64) rfl rfl Tryz.func34 (by kernel_rfl) rfl #[] rfl (by (try simp only [List.map_toArray, List.map_cons, List.map_nil]); first | done | rfl | (simp only [List.length_drop, List.length_take]; rfl)) ?_; (with_reducible refine (spilelaw46_example.calls  3 [(⟨1, 0, 1000⟩ : S26), (⟨1, 100, 1500⟩ : S26)] _ A16.out).mono ?_); rintro e w58 ⟨v240, rfl, ho0, hb⟩; refine ⟨_, rfl, ?_⟩; have n0_ := Aside0.mk (Kd.R_elder' (by (with_reducible repeat (first | apply Kd.R_alloc | apply Kd.R_drewN | apply Kd.R_drew)); exact (Kd.R_mono (Kd.R_far (p := ⟨gb239, 1, none⟩) (Kd.R_far (p := ⟨gb239, 0, none⟩) (Kd.R_types HO218.out BK239.out (by decide)) (fun _ hk => hk.2) (.int .i64 3)) (fun _ hk => hk.2) (.slice Ao57 [(⟨1, 0, 1000⟩ : S26), (⟨1, 50, 7⟩ : S26), (⟨1, 100, 1500⟩ : S26)].length co57)) (fun _ h_ => h_.1))) (Kd.R_base ho0) hb); have n1_ := Aside0.mk (Kd.R_elder' (by (with_reducible repeat (first | apply Kd.R_alloc | apply Kd.R_drewN | apply Kd.R_drew)); exact (Kd.R_mono (Kd.R_far (p := ⟨gb239, 1, none⟩) (Kd.R_far (p := ⟨gb239, 0, none⟩) (Kd.R_types HO220.out BK239.out (by decide)) (fun _ hk => hk.2) (.int .i64 3)) (fun _ hk => hk.2) (.slice Ao57 [(⟨1, 0, 1000⟩ : S26), (⟨1, 50, 7⟩ : S26), (⟨1, 100, 1500⟩ : S26)].length co57)) (fun _ h_ => h_.1))) (Kd.R_base ho0) hb); have n2_ := Aside0.mk (Kd.R_elder' (by (with_reducible repeat (first | apply Kd.R_alloc | apply Kd.R_drewN | apply Kd.R_drew)); exact (Kd.R_mono (Kd.R_far (p := ⟨gb239, 1, none⟩) (Kd.R_far (p := ⟨gb239, 0, none⟩) (Kd.R_types HO222.out BK239.out (by decide)) (fun _ hk => hk.2) (.int .i64 3)) (fun _ hk => hk.2) (.slice Ao57 [(⟨1, 0, 1000⟩ : S26), (⟨1, 50, 7⟩ : S26), (⟨1, 100, 1500⟩ : S26)].length co57)) (fun _ h_ => h_.1))) (Kd.R_base ho0) hb); have n3_ := Aside0.mk (Kd.R_elder' (by (with_reducible repeat (first | apply Kd.R_alloc | apply Kd.R_drewN | apply Kd.R_drew)); exact (Kd.R_mono (Kd.R_far (p := ⟨gb239, 1, none⟩) (Kd.R_far (p := ⟨gb239, 0, none⟩) (Kd.R_types HO224.out BK239.out (by decide)) (fun _ hk => hk.2) (.int .i64 3)) (fun _ hk => hk.2) (.slice Ao57 [(⟨1, 0, 1000⟩ : S26), (⟨1, 50, 7⟩ : S26), (⟨1, 100, 1500⟩ : S26)].length co57)) (fun _ h_ => h_.1))) (Kd.R_base ho0) hb); have n4_ := Aside0.mk (Kd.R_elder' (by (with_reducible repeat (first | apply Kd.R_alloc | apply Kd.R_drewN | apply Kd.R_drew)); exact (Kd.R_mono (Kd.R_far (p := ⟨gb239, 1, none⟩) (Kd.R_far (p := ⟨gb239, 0, none⟩) (Kd.R_types HO227.out BK239.out (by decide)) (fun _ hk => hk.2) (.int .i64 3)) (fun _ hk => hk.2) (.slice Ao57 [(⟨1, 0, 1000⟩ : S26), (⟨1, 50, 7⟩ : S26), (⟨1, 100, 1500⟩ : S26)].length co57)) (fun _ h_ => h_.1))) (Kd.R_base ho0) hb); have n5_ := Aside0.mk (Kd.R_below (by (with_reducible repeat (first | apply Kd.R_alloc | apply Kd.R_drewN | apply Kd.R_drew)); exact (Kd.R_mono (Kd.R_far (p := ⟨gb239, 1, none⟩) (Kd.R_far (p := ⟨gb239, 0, none⟩) (Kd.R_types HO229.out BK239.out (by decide)) (fun _ hk => hk.2) (.int .i64 3)) (fun _ hk => hk.2) (.slice Ao57 [(⟨1, 0, 1000⟩ : S26), (⟨1, 50, 7⟩ : S26), (⟨1, 100, 1500⟩ : S26)].length co57)) (fun _ h_ => h_.1))) hb); have n6_ := Aside0.mk (Kd.R_elder' (by (with_reducible repeat (first | apply Kd.R_alloc | apply Kd.R_drewN | apply Kd.R_drew)); exact (Kd.R_mono (Kd.R_far (p := ⟨gb239, 1, none⟩) (Kd.R_far (p := ⟨gb239, 0, none⟩) (Kd.R_types HO231.out BK239.out (by decide)) (fun _ hk => hk.2) (.int .i64 3)) (fun _ hk => hk.2) (.slice Ao57 [(⟨1, 0, 1000⟩ : S26), (⟨1, 50, 7⟩ : S26), (⟨1, 100, 1500⟩ : S26)].length co57)) (fun _ h_ => h_.1))) (Kd.R_base ho0) hb); have n7_ := Aside0.mk (Kd.R_elder' (by (with_reducible repeat (first | apply Kd.R_alloc | apply Kd.R_drewN | apply Kd.R_drew)); exact (Kd.R_mono (Kd.R_far (p := ⟨gb239, 1, none⟩) (Kd.R_far (p := ⟨gb239, 0, none⟩) (Kd.R_types HO233.out BK239.out (by decide)) (fun _ hk => hk.2) (.int .i64 3)) (fun _ hk => hk.2) (.slice Ao57 [(⟨1, 0, 1000⟩ : S26), (⟨1, 50, 7⟩ : S26), (⟨1, 100, 1500⟩ : S26)].length co57)) (fun _ h_ => h_.1))) (Kd.R_base ho0) hb); have n8_ := Aside0.mk (Kd.R_elder' (by (with_reducible repeat (first | apply Kd.R_alloc | apply Kd.R_drewN | apply Kd.R_drew)); exact (Kd.R_mono (Kd.R_far (p := ⟨gb239, 1, none⟩) (Kd.R_far (p := ⟨gb239, 0, none⟩) (Kd.R_types HO236.out BK239.out (by decide)) (fun _ hk => hk.2) (.int .i64 3)) (fun _ hk => hk.2) (.slice Ao57 [(⟨1, 0, 1000⟩ : S26), (⟨1, 50, 7⟩ : S26), (⟨1, 100, 1500⟩ : S26)].length co57)) (fun _ h_ => h_.1))) (Kd.R_base ho0) hb); have n9_ := Aside0.mk (Kd.R_elder' (by (with_reducible repeat (first | apply Kd.R_alloc | apply Kd.R_drewN | apply Kd.R_drew)); exact (Kd.R_mono (Kd.R_far (p := ⟨gb239, 1, none⟩) (Kd.R_far (p := ⟨gb239, 0, none⟩) (Kd.R_types HO238.out BK239.out (by decide)) (fun _ hk => hk.2) (.int .i64 3)) (fun _ hk => hk.2) (.slice Ao57 [(⟨1, 0, 1000⟩ : S26), (⟨1, 50, 7⟩ : S26), (⟨1, 100, 1500⟩ : S26)].length co57)) (fun _ h_ => h_.1))) (Kd.R_base ho0) hb); have n10_ := Aside0.mk (Kd.R_lower (Kd.R_newB (Kd.R_new' (Kd.R_new' (Kd.R_new' (Kd.R_new' (Kd.R_new' (Kd.R_new' (Kd.R_new' (Kd.R_new' (Kd.R_new' ho0 (Kd.R_lt (by (with_reducible repeat (first | apply Kd.R_alloc | apply Kd.R_drewN | apply Kd.R_drew)); exact (Kd.R_mono (Kd.R_far (p := ⟨gb239, 1, none⟩) (Kd.R_far (p := ⟨gb239, 0, none⟩) (Kd.R_types HO218.out BK239.out (by decide)) (fun _ hk => hk.2) (.int .i64 3)) (fun _ hk => hk.2) (.slice Ao57 [(⟨1, 0, 1000⟩ : S26), (⟨1, 50, 7⟩ : S26), (⟨1, 100, 1500⟩ : S26)].length co57)) (fun _ h_ => h_.1))))) (Kd.R_lt (by (with_reducible repeat (first | apply Kd.R_alloc | apply Kd.R_drewN | apply Kd.R_drew)); exact (Kd.R_mono (Kd.R_far (p := ⟨gb239, 1, none⟩) (Kd.R_far (p := ⟨gb239, 0, none⟩) (Kd.R_types HO220.out BK239.out (by decide)) (fun _ hk => hk.2) (.int .i64 3)) (fun _ hk => hk.2) (.slice Ao57 [(⟨1, 0, 1000⟩ : S26), (⟨1, 50, 7⟩ : S26), (⟨1, 100, 1500⟩ : S26)].length co57)) (fun _ h_ => h_.1))))) (Kd.R_lt (by (with_reducible repeat (first | apply Kd.R_alloc | apply Kd.R_drewN | apply Kd.R_drew)); exact (Kd.R_mono (Kd.R_far (p := ⟨gb239, 1, none⟩) (Kd.R_far (p := ⟨gb239, 0, none⟩) (Kd.R_types HO222.out BK239.out (by decide)) (fun _ hk => hk.2) (.int .i64 3)) (fun _ hk => hk.2) (.slice Ao57 [(⟨1, 0, 1000⟩ : S26), (⟨1, 50, 7⟩ : S26), (⟨1, 100, 1500⟩ : S26)].length co57)) (fun _ h_ => h_.1))))) (Kd.R_lt (by (with_reducible repeat (first | apply Kd.R_alloc | apply Kd.R_drewN | apply Kd.R_drew)); exact (Kd.R_mono (Kd.R_far (p := ⟨gb239, 1, none⟩) (Kd.R_far (p := ⟨gb239, 0, none⟩) (Kd.R_types HO224.out BK239.out (by decide)) (fun _ hk => hk.2) (.int .i64 3)) (fun _ hk => hk.2) (.slice Ao57 [(⟨1, 0, 1000⟩ : S26), (⟨1, 50, 7⟩ : S26), (⟨1, 100, 1500⟩ : S26)].length co57)) (fun _ h_ => h_.1))))) (Kd.R_lt (by (with_reducible repeat (first | apply Kd.R_alloc | apply Kd.R_drewN | apply Kd.R_drew)); exact (Kd.R_mono (Kd.R_far (p := ⟨gb239, 1, none⟩) (Kd.R_far (p := ⟨gb239, 0, none⟩) (Kd.R_types HO227.out BK239.out (by decide)) (fun _ hk => hk.2) (.int .i64 3)) (fun _ hk => hk.2) (.slice Ao57 [(⟨1, 0, 1000⟩ : S26), (⟨1, 50, 7⟩ : S26), (⟨1, 100, 1500⟩ : S26)].length co57)) (fun _ h_ => h_.1))))) (Kd.R_lt (by (with_reducible repeat (first | apply Kd.R_alloc | apply Kd.R_drewN | apply Kd.R_drew)); exact (Kd.R_mono (Kd.R_far (p := ⟨gb239, 1, none⟩) (Kd.R_far (p := ⟨gb239, 0, none⟩) (Kd.R_types HO231.out BK239.out (by decide)) (fun _ hk => hk.2) (.int .i64 3)) (fun _ hk => hk.2) (.slice Ao57 [(⟨1, 0, 1000⟩ : S26), (⟨1, 50, 7⟩ : S26), (⟨1, 100, 1500⟩ : S26)].length co57)) (fun _ h_ => h_.1))))) (Kd.R_lt (by (with_reducible repeat (first | apply Kd.R_alloc | apply Kd.R_drewN | apply Kd.R_drew)); exact (Kd.R_mono (Kd.R_far (p := ⟨gb239, 1, none⟩) (Kd.R_far (p := ⟨gb239, 0, none⟩) (Kd.R_types HO233.out BK239.out (by decide)) (fun _ hk => hk.2) (.int .i64 3)) (fun _ hk => hk.2) (.slice Ao57 [(⟨1, 0, 1000⟩ : S26), (⟨1, 50, 7⟩ : S26), (⟨1, 100, 1500⟩ : S26)].length co57)) (fun _ h_ => h_.1))))) (Kd.R_lt (by (with_reducible repeat (first | apply Kd.R_alloc | apply Kd.R_drewN | apply Kd.R_drew)); exact (Kd.R_mono (Kd.R_far (p := ⟨gb239, 1, none⟩) (Kd.R_far (p := ⟨gb239, 0, none⟩) (Kd.R_types HO236.out BK239.out (by decide)) (fun _ hk => hk.2) (.int .i64 3)) (fun _ hk => hk.2) (.slice Ao57 [(⟨1, 0, 1000⟩ : S26), (⟨1, 50, 7⟩ : S26), (⟨1, 100, 1500⟩ : S26)].length co57)) (fun _ h_ => h_.1))))) (Kd.R_lt (by (with_reducible repeat (first | apply Kd.R_alloc | apply Kd.R_drewN | apply Kd.R_drew)); exact (Kd.R_mono (Kd.R_far (p := ⟨gb239, 1, none⟩) (Kd.R_far (p := ⟨gb239, 0, none⟩) (Kd.R_types HO238.out BK239.out (by decide)) (fun _ hk => hk.2) (.int .i64 3)) (fun _ hk => hk.2) (.slice Ao57 [(⟨1, 0, 1000⟩ : S26), (⟨1, 50, 7⟩ : S26), (⟨1, 100, 1500⟩ : S26)].length co57)) (fun _ h_ => h_.1))))) (g := gb225) (o := .cells #[.int .i64 1, .int .i64 100, .int .i64 1500] 26 (0, 0)) (by (with_reducible repeat first | apply bN | apply bD | apply bA); refine blk_far ?_ NB225_239.out _; (with_reducible repeat first | apply bN | apply bD | apply bA); refine blk_far ?_ NB225_239.out _; (with_reducible repeat first | apply bN | apply bD | apply bA); exact BK225.out)) (below_size (eG HB.out))); have n11_ := Aside0.mk (blk_below (g := gb225) (o := .cells #[.int .i64 1, .int .i64 100, .int .i64 1500] 26 (0, 0)) (by (with_reducible repeat first | apply bN | apply bD | apply bA); refine blk_far ?_ NB225_239.out _; (with_reducible repeat first | apply bN | apply bD | apply bA); refine blk_far ?_ NB225_239.out _; (with_reducible repeat first | apply bN | apply bD | apply bA); exact BK225.out) hb); have n12_ := Aside0.mk (blk_below (g := gb234) (o := .cells #[.int .i64 2, .slice Ao49 [(⟨2, 7, 9⟩ : S26)].length co49] 24 (0, 0)) (by (with_reducible repeat first | apply bN | apply bD | apply bA); refine blk_far ?_ NB234_239.out _; (with_reducible repeat first | apply bN | apply bD | apply bA); refine blk_far ?_ NB234_239.out _; (with_reducible repeat first | apply bN | apply bD | apply bA); exact BK234.out) hb); have n13_ := Aside0.mk (blk_below (g := gb239) (o := .cells #[.int .i64 3, .slice Ao57 [(⟨1, 0, 1000⟩ : S26), (⟨1, 50, 7⟩ : S26), (⟨1, 100, 1500⟩ : S26)].length co57] 24 (0, 0)) (by (with_reducible repeat first | apply bN | apply bD | apply bA); refine blk_put (cs := #[.int .i64 3, .slice none 0 0]) ?_ 1 _ rfl; (with_reducible repeat first | apply bN | apply bD | apply bA); refine blk_put (cs := #[.int .i64 0, .slice none 0 0]) ?_ 0 _ rfl; (with_reducible repeat first | apply bN | apply bD | apply bA); exact BK239.out) hb); have n14_ := Aside0.mk (below_step (eG HB.out) hb); clear HO218; clear HO220; clear HO222; clear HO224; clear HO227; clear HO229; clear HO231; clear HO233; clear HO236; clear HO238; clear BK225; clear BK234; clear BK239; clear HB; have HO218 := n0_; have HO220 := n1_; have HO222 := n2_; have HO224 := n3_; have HO227 := n4_; have HO229 := n5_; have HO231 := n6_; have HO233 := n7_; have HO236 := n8_; have HO238 := n9_; have HO241 := n10_; have BK225 := n11_; have BK234 := n12_; have BK239 := n13_; have HB := n14_; clear n0_ n1_ n2_ n3_ n4_ n5_ n6_ n7_ n8_ n9_ n10_ n11_ n12_ n13_ n14_; (try clear hb); (try clear hb2); (try clear hk); (try clear hi); (try clear ho0); obtain ⟨Ao59, co59, eo59⟩ := Kd.R_slice HO241.out; subst eo59) | ((with_reducible refine gate_callee (f := 19) rfl ?_); refine goesL_ (some 65) rfl rfl Tryz.func19 (by kernel_rfl) rfl #[.agg #[.int .i64 3, .slice Ao59 [(⟨1, 0, 1000⟩ : S26), (⟨1, 100, 1500⟩ : S26)].length co59], .int .i64 1, .int .i64 99] rfl (by (try simp only [List.map_toArray, List.map_cons, List.map_nil]); first | done | rfl | (simp only [List.length_drop, List.length_take]; rfl)) ?_; (with_reducible refine (tariff_At.calls 400 3 _ _ [(⟨1, 0, 1000⟩ : S26), (⟨1, 100, 1500⟩ : S26)] 1 99 1 0 1000 0 _ ?side1 ?side2 A17.out).mono ?_); (case side1 => repeat (first | exact (Kd.R_reads' HO241.out).2.2 | (with_reducible refine Kd.C_alloc ?_ _) | (with_reducible refine Kd.C_drewN ?_ _) | (with_reducible refine Kd.C_drew ?_))); (case side2 => exact (Kd.R_reads' HO241.out).2.1); rintro e w60 ⟨rfl, hb⟩; refine ⟨_, rfl, ?_⟩; have n0_ := Aside0.mk (Kd.R_below (rG HO218.out) hb); have n1_ := Aside0.mk (Kd.R_below (rG HO220.out) hb); have n2_ := Aside0.mk (Kd.R_below (rG HO222.out) hb); have n3_ := Aside0.mk (Kd.R_below (rG HO224.out) hb); have n4_ := Aside0.mk (Kd.R_below (rG HO227.out) hb); have n5_ := Aside0.mk (Kd.R_below (rG HO229.out) hb); have n6_ := Aside0.mk (Kd.R_below (rG HO231.out) hb); have n7_ := Aside0.mk (Kd.R_below (rG HO233.out) hb); have n8_ := Aside0.mk (Kd.R_below (rG HO236.out) hb); have n9_ := Aside0.mk (Kd.R_below (rG HO238.out) hb); have n10_ := Aside0.mk (Kd.R_below (rG HO241.out) hb); have n11_ := Aside0.mk (blk_below (bG BK225.out) hb); have n12_ := Aside0.mk (blk_below (bG BK234.out) hb); have n13_ := Aside0.mk (blk_below (bG BK239.out) hb); have n14_ := Aside0.mk (below_step (eG HB.out) hb); clear HO218; clear HO220; clear HO222; clear HO224; clear HO227; clear HO229; clear HO231; clear HO233; clear HO236; clear HO238; clear HO241; clear BK225; clear BK234; clear BK239; clear HB; have HO218 := n0_; have HO220 := n1_; have HO222 := n2_; have HO224 := n3_; have HO227 := n4_; have HO229 := n5_; have HO231 := n6_; have HO233 := n7_; have HO236 := n8_; have HO238 := n9_; have HO241 := n10_; have BK225 := n11_; have BK234 := n12_; have BK239 := n13_; have HB := n14_; clear n0_ n1_ n2_ n3_ n4_ n5_ n6_ n7_ n8_ n9_ n10_ n11_ n12_ n13_ n14_; (try clear hb); (try clear hb2); (try clear hk); (try clear hi)) | ((with_reducible refine gate_dst (N := 18) rfl ?_); (try (refine gate_guard (by rfl) ?_; dsimp only)); refine box_event ?hg (N := 18) ?hd (cs := #[.int .i64 0, .int .i64 0, .int .i64 0]) (t := 26) ?hr ?_; (case hd => rfl); (case hg => rfl); (case hr => first | (go_simp; done) | (go_simp; rfl)); intro gb242 hg w61 hbox hb; have n0_ := Aside0.mk (Kd.R_below (Kd.R_elderB (rG HO218.out) gb242 (Nat.le_of_eq hg.symm)) hb); have n1_ := Aside0.mk (Kd.R_below (Kd.R_elderB (rG HO220.out) gb242 (Nat.le_of_eq hg.symm)) hb); have n2_ := Aside0.mk (Kd.R_below (Kd.R_elderB (rG HO222.out) gb242 (Nat.le_of_eq hg.symm)) hb); have n3_ := Aside0.mk (Kd.R_below (Kd.R_elderB (rG HO224.out) gb242 (Nat.le_of_eq hg.symm)) hb); have n4_ := Aside0.mk (Kd.R_below (Kd.R_elderB (rG HO227.out) gb242 (Nat.le_of_eq hg.symm)) hb); have n5_ := Aside0.mk (Kd.R_below (rG HO229.out) hb); have n6_ := Aside0.mk (Kd.R_below (Kd.R_elderB (rG HO231.out) gb242 (Nat.le_of_eq hg.symm)) hb); have n7_ := Aside0.mk (Kd.R_below (Kd.R_elderB (rG HO233.out) gb242 (Nat.le_of_eq hg.symm)) hb); have n8_ := Aside0.mk (Kd.R_below (Kd.R_elderB (rG HO236.out) gb242 (Nat.le_of_eq hg.symm)) hb); have n9_ := Aside0.mk (Kd.R_below (Kd.R_elderB (rG HO238.out) gb242 (Nat.le_of_eq hg.symm)) hb); have n10_ := Aside0.mk (Kd.R_below (Kd.R_elderB (rG HO241.out) gb242 (Nat.le_of_eq hg.symm)) hb); have n11_ := Aside0.mk (blk_below (bG BK225.out) hb); have n12_ := Aside0.mk (blk_below (bG BK234.out) hb); have n13_ := Aside0.mk (blk_below (bG BK239.out) hb); have n14_ := Aside0.mk (below_step (eG HB.out) hb); have n15_ := Aside0.mk (hbox); have n16_ := Aside0.mk ((by rw [hg]; exact (below_size (eG HB.out)) : w.heap.size ≤ gb242)); have n17_ := Aside0.mk ((by rw [hg]; exact (below_size (eG HB.out)) : w.heap.size ≤ gb242)); have n18_ := Aside0.mk ((by rw [hg]; exact Nat.ne_of_lt (blk_lt (bG BK225.out)) : gb225 ≠ gb242)); have n19_ := Aside0.mk ((by rw [hg]; exact Nat.ne_of_gt (blk_lt (bG BK225.out)) : gb242 ≠ gb225)); have n20_ := Aside0.mk ((by rw [hg]; exact Nat.ne_of_lt (blk_lt (bG BK234.out)) : gb234 ≠ gb242)); have n21_ := Aside0.mk ((by rw [hg]; exact Nat.ne_of_gt (blk_lt (bG BK234.out)) : gb242 ≠ gb234)); have n22_ := Aside0.mk ((by rw [hg]; exact Nat.ne_of_lt (blk_lt (bG BK239.out)) : gb239 ≠ gb242)); have n23_ := Aside0.mk ((by rw [hg]; exact Nat.ne_of_gt (blk_lt (bG BK239.out)) : gb242 ≠ gb239)); clear HO218; clear HO220; clear HO222; clear HO224; clear HO227; clear HO229; clear HO231; clear HO233; clear HO236; clear HO238; clear HO241; clear BK225; clear BK234; clear BK239; clear HB; have HO218 := n0_; have HO220 := n1_; have HO222 := n2_; have HO224 := n3_; have HO227 := n4_; have HO229 := n5_; have HO231 := n6_; have HO233 := n7_; have HO236 := n8_; have HO238 := n9_; have HO241 := n10_; have BK225 := n11_; have BK234 := n12_; have BK239 := n13_; have HB := n14_; have BK242 := n15_; have GW242 := n16_; have GE242 := n17_; have ig242_ := geI GE242; have NB225_242 := n18_; have NB242_225 := n19_; have NB234_242 := n20_; have NB242_234 := n21_; have NB239_242 := n22_; have NB242_239 := n23_; clear n0_ n1_ n2_ n3_ n4_ n5_ n6_ n7_ n8_ n9_ n10_ n11_ n12_ n13_ n14_ n15_ n16_ n17_ n18_ n19_ n20_ n21_ n22_ n23_; clear hb hbox hg; have hnb62 := NB242_225.out; have hnc62 := NB225_242.out; have hnb63 := NB242_234.out; have hnc63 := NB234_242.out; have hnb64 := NB242_239.out; have hnc64 := NB239_242.out; have hcz65_0 : w61.cell? ⟨gb242, 0, none⟩ = some (.int .i64 0) := (blk_cell BK242.out 0).trans rfl; have hcz65_1 : w61.cell? ⟨gb242, 1, none⟩ = some (.int .i64 0) := (blk_cell BK242.out 1).trans rfl; have hcz65_2 : w61.cell? ⟨gb242, 2, none⟩ = some (.int .i64 0) := (blk_cell BK242.out 2).trans rfl; have hfz65_0 := blk_frozen BK242.out 0; have hfz65_1 := blk_frozen BK242.out 1; have hfz65_2 := blk_frozen BK242.out 2) | ((with_reducible refine gate_callee (f := 34) rfl ?_); refine goesL_ (some 69) rfl rfl Tryz.func34 (by kernel_rfl) rfl #[] rfl (by (try simp only [List.map_toArray, List.map_cons, List.map_nil]); first | done | rfl | (simp only [List.length_drop, List.length_take]; rfl)) ?_; (with_reducible refine (spilelaw46_example.calls  3 [(⟨1, 0, 1000⟩ : S26), (⟨1, 100, 1500⟩ : S26)] _ A18.out).mono ?_); rintro e w66 ⟨v243, rfl, ho0, hb⟩; refine ⟨_, rfl, ?_⟩; have n0_ := Aside0.mk (Kd.R_elder' (by (with_reducible repeat (first | apply Kd.R_alloc | apply Kd.R_drewN | apply Kd.R_drew)); exact (Kd.R_mono (Kd.R_far (p := ⟨gb242, 2, none⟩) (Kd.R_far (p := ⟨gb242, 1, none⟩) (Kd.R_far (p := ⟨gb242, 0, none⟩) (Kd.R_mono HO218.out (fun k_ hk => (⟨hk, hk.2⟩ : _ ∧ k_ ≠ gb242))) (fun _ hk => hk.2) (.int .i64 1)) (fun _ hk => hk.2) (.int .i64 0)) (fun _ hk => hk.2) (.int .i64 1000)) (fun _ h_ => h_.1))) (Kd.R_base ho0) hb); have n1_ := Aside0.mk (Kd.R_elder' (by (with_reducible repeat (first | apply Kd.R_alloc | apply Kd.R_drewN | apply Kd.R_drew)); exact (Kd.R_mono (Kd.R_far (p := ⟨gb242, 2, none⟩) (Kd.R_far (p := ⟨gb242, 1, none⟩) (Kd.R_far (p := ⟨gb242, 0, none⟩) (Kd.R_mono HO220.out (fun k_ hk => (⟨hk, hk.2⟩ : _ ∧ k_ ≠ gb242))) (fun _ hk => hk.2) (.int .i64 1)) (fun _ hk => hk.2) (.int .i64 0)) (fun _ hk => hk.2) (.int .i64 1000)) (fun _ h_ => h_.1))) (Kd.R_base ho0) hb); have n2_ := Aside0.mk (Kd.R_elder' (by (with_reducible repeat (first | apply Kd.R_alloc | apply Kd.R_drewN | apply Kd.R_drew)); exact (Kd.R_mono (Kd.R_far (p := ⟨gb242, 2, none⟩) (Kd.R_far (p := ⟨gb242, 1, none⟩) (Kd.R_far (p := ⟨gb242, 0, none⟩) (Kd.R_mono HO222.out (fun k_ hk => (⟨hk, hk.2⟩ : _ ∧ k_ ≠ gb242))) (fun _ hk => hk.2) (.int .i64 1)) (fun _ hk => hk.2) (.int .i64 0)) (fun _ hk => hk.2) (.int .i64 1000)) (fun _ h_ => h_.1))) (Kd.R_base ho0) hb); have n3_ := Aside0.mk (Kd.R_elder' (by (with_reducible repeat (first | apply Kd.R_alloc | apply Kd.R_drewN | apply Kd.R_drew)); exact (Kd.R_mono (Kd.R_far (p := ⟨gb242, 2, none⟩) (Kd.R_far (p := ⟨gb242, 1, none⟩) (Kd.R_far (p := ⟨gb242, 0, none⟩) (Kd.R_mono HO224.out (fun k_ hk => (⟨hk, hk.2⟩ : _ ∧ k_ ≠ gb242))) (fun _ hk => hk.2) (.int .i64 1)) (fun _ hk => hk.2) (.int .i64 0)) (fun _ hk => hk.2) (.int .i64 1000)) (fun _ h_ => h_.1))) (Kd.R_base ho0) hb); have n4_ := Aside0.mk (Kd.R_elder' (by (with_reducible repeat (first | apply Kd.R_alloc | apply Kd.R_drewN | apply Kd.R_drew)); exact (Kd.R_mono (Kd.R_far (p := ⟨gb242, 2, none⟩) (Kd.R_far (p := ⟨gb242, 1, none⟩) (Kd.R_far (p := ⟨gb242, 0, none⟩) (Kd.R_mono HO227.out (fun k_ hk => (⟨hk, hk.2⟩ : _ ∧ k_ ≠ gb242))) (fun _ hk => hk.2) (.int .i64 1)) (fun _ hk => hk.2) (.int .i64 0)) (fun _ hk => hk.2) (.int .i64 1000)) (fun _ h_ => h_.1))) (Kd.R_base ho0) hb); have n5_ := Aside0.mk (Kd.R_below (by (with_reducible repeat (first | apply Kd.R_alloc | apply Kd.R_drewN | apply Kd.R_drew)); exact (Kd.R_mono (Kd.R_far (p := ⟨gb242, 2, none⟩) (Kd.R_far (p := ⟨gb242, 1, none⟩) (Kd.R_far (p := ⟨gb242, 0, none⟩) (Kd.R_types HO229.out BK242.out (by decide)) (fun _ hk => hk.2) (.int .i64 1)) (fun _ hk => hk.2) (.int .i64 0)) (fun _ hk => hk.2) (.int .i64 1000)) (fun _ h_ => h_.1))) hb); have n6_ := Aside0.mk (Kd.R_elder' (by (with_reducible repeat (first | apply Kd.R_alloc | apply Kd.R_drewN | apply Kd.R_drew)); exact (Kd.R_mono (Kd.R_far (p := ⟨gb242, 2, none⟩) (Kd.R_far (p := ⟨gb242, 1, none⟩) (Kd.R_far (p := ⟨gb242, 0, none⟩) (Kd.R_mono HO231.out (fun k_ hk => (⟨hk, hk.2⟩ : _ ∧ k_ ≠ gb242))) (fun _ hk => hk.2) (.int .i64 1)) (fun _ hk => hk.2) (.int .i64 0)) (fun _ hk => hk.2) (.int .i64 1000)) (fun _ h_ => h_.1))) (Kd.R_base ho0) hb); have n7_ := Aside0.mk (Kd.R_elder' (by (with_reducible repeat (first | apply Kd.R_alloc | apply Kd.R_drewN | apply Kd.R_drew)); exact (Kd.R_mono (Kd.R_far (p := ⟨gb242, 2, none⟩) (Kd.R_far (p := ⟨gb242, 1, none⟩) (Kd.R_far (p := ⟨gb242, 0, none⟩) (Kd.R_mono HO233.out (fun k_ hk => (⟨hk, hk.2⟩ : _ ∧ k_ ≠ gb242))) (fun _ hk => hk.2) (.int .i64 1)) (fun _ hk => hk.2) (.int .i64 0)) (fun _ hk => hk.2) (.int .i64 1000)) (fun _ h_ => h_.1))) (Kd.R_base ho0) hb); have n8_ := Aside0.mk (Kd.R_elder' (by (with_reducible repeat (first | apply Kd.R_alloc | apply Kd.R_drewN | apply Kd.R_drew)); exact (Kd.R_mono (Kd.R_far (p := ⟨gb242, 2, none⟩) (Kd.R_far (p := ⟨gb242, 1, none⟩) (Kd.R_far (p := ⟨gb242, 0, none⟩) (Kd.R_mono HO236.out (fun k_ hk => (⟨hk, hk.2⟩ : _ ∧ k_ ≠ gb242))) (fun _ hk => hk.2) (.int .i64 1)) (fun _ hk => hk.2) (.int .i64 0)) (fun _ hk => hk.2) (.int .i64 1000)) (fun _ h_ => h_.1))) (Kd.R_base ho0) hb); have n9_ := Aside0.mk (Kd.R_elder' (by (with_reducible repeat (first | apply Kd.R_alloc | apply Kd.R_drewN | apply Kd.R_drew)); exact (Kd.R_mono (Kd.R_far (p := ⟨gb242, 2, none⟩) (Kd.R_far (p := ⟨gb242, 1, none⟩) (Kd.R_far (p := ⟨gb242, 0, none⟩) (Kd.R_mono HO238.out (fun k_ hk => (⟨hk, hk.2⟩ : _ ∧ k_ ≠ gb242))) (fun _ hk => hk.2) (.int .i64 1)) (fun _ hk => hk.2) (.int .i64 0)) (fun _ hk => hk.2) (.int .i64 1000)) (fun _ h_ => h_.1))) (Kd.R_base ho0) hb); have n10_ := Aside0.mk (Kd.R_elder' (by (with_reducible repeat (first | apply Kd.R_alloc | apply Kd.R_drewN | apply Kd.R_drew)); exact (Kd.R_mono (Kd.R_far (p := ⟨gb242, 2, none⟩) (Kd.R_far (p := ⟨gb242, 1, none⟩) (Kd.R_far (p := ⟨gb242, 0, none⟩) (Kd.R_mono HO241.out (fun k_ hk => (⟨hk, hk.2⟩ : _ ∧ k_ ≠ gb242))) (fun _ hk => hk.2) (.int .i64 1)) (fun _ hk => hk.2) (.int .i64 0)) (fun _ hk => hk.2) (.int .i64 1000)) (fun _ h_ => h_.1))) (Kd.R_base ho0) hb); have n11_ := Aside0.mk (Kd.R_lower (Kd.R_newB (Kd.R_newB (Kd.R_new' (Kd.R_new' (Kd.R_new' (Kd.R_new' (Kd.R_new' (Kd.R_new' (Kd.R_new' (Kd.R_new' (Kd.R_new' (Kd.R_new' ho0 (Kd.R_lt (by (with_reducible repeat (first | apply Kd.R_alloc | apply Kd.R_drewN | apply Kd.R_drew)); exact (Kd.R_mono (Kd.R_far (p := ⟨gb242, 2, none⟩) (Kd.R_far (p := ⟨gb242, 1, none⟩) (Kd.R_far (p := ⟨gb242, 0, none⟩) (Kd.R_mono HO218.out (fun k_ hk => (⟨hk, hk.2⟩ : _ ∧ k_ ≠ gb242))) (fun _ hk => hk.2) (.int .i64 1)) (fun _ hk => hk.2) (.int .i64 0)) (fun _ hk => hk.2) (.int .i64 1000)) (fun _ h_ => h_.1))))) (Kd.R_lt (by (with_reducible repeat (first | apply Kd.R_alloc | apply Kd.R_drewN | apply Kd.R_drew)); exact (Kd.R_mono (Kd.R_far (p := ⟨gb242, 2, none⟩) (Kd.R_far (p := ⟨gb242, 1, none⟩) (Kd.R_far (p := ⟨gb242, 0, none⟩) (Kd.R_mono HO220.out (fun k_ hk => (⟨hk, hk.2⟩ : _ ∧ k_ ≠ gb242))) (fun _ hk => hk.2) (.int .i64 1)) (fun _ hk => hk.2) (.int .i64 0)) (fun _ hk => hk.2) (.int .i64 1000)) (fun _ h_ => h_.1))))) (Kd.R_lt (by (with_reducible repeat (first | apply Kd.R_alloc | apply Kd.R_drewN | apply Kd.R_drew)); exact (Kd.R_mono (Kd.R_far (p := ⟨gb242, 2, none⟩) (Kd.R_far (p := ⟨gb242, 1, none⟩) (Kd.R_far (p := ⟨gb242, 0, none⟩) (Kd.R_mono HO222.out (fun k_ hk => (⟨hk, hk.2⟩ : _ ∧ k_ ≠ gb242))) (fun _ hk => hk.2) (.int .i64 1)) (fun _ hk => hk.2) (.int .i64 0)) (fun _ hk => hk.2) (.int .i64 1000)) (fun _ h_ => h_.1))))) (Kd.R_lt (by (with_reducible repeat (first | apply Kd.R_alloc | apply Kd.R_drewN | apply Kd.R_drew)); exact (Kd.R_mono (Kd.R_far (p := ⟨gb242, 2, none⟩) (Kd.R_far (p := ⟨gb242, 1, none⟩) (Kd.R_far (p := ⟨gb242, 0, none⟩) (Kd.R_mono HO224.out (fun k_ hk => (⟨hk, hk.2⟩ : _ ∧ k_ ≠ gb242))) (fun _ hk => hk.2) (.int .i64 1)) (fun _ hk => hk.2) (.int .i64 0)) (fun _ hk => hk.2) (.int .i64 1000)) (fun _ h_ => h_.1))))) (Kd.R_lt (by (with_reducible repeat (first | apply Kd.R_alloc | apply Kd.R_drewN | apply Kd.R_drew)); exact (Kd.R_mono (Kd.R_far (p := ⟨gb242, 2, none⟩) (Kd.R_far (p := ⟨gb242, 1, none⟩) (Kd.R_far (p := ⟨gb242, 0, none⟩) (Kd.R_mono HO227.out (fun k_ hk => (⟨hk, hk.2⟩ : _ ∧ k_ ≠ gb242))) (fun _ hk => hk.2) (.int .i64 1)) (fun _ hk => hk.2) (.int .i64 0)) (fun _ hk => hk.2) (.int .i64 1000)) (fun _ h_ => h_.1))))) (Kd.R_lt (by (with_reducible repeat (first | apply Kd.R_alloc | apply Kd.R_drewN | apply Kd.R_drew)); exact (Kd.R_mono (Kd.R_far (p := ⟨gb242, 2, none⟩) (Kd.R_far (p := ⟨gb242, 1, none⟩) (Kd.R_far (p := ⟨gb242, 0, none⟩) (Kd.R_mono HO231.out (fun k_ hk => (⟨hk, hk.2⟩ : _ ∧ k_ ≠ gb242))) (fun _ hk => hk.2) (.int .i64 1)) (fun _ hk => hk.2) (.int .i64 0)) (fun _ hk => hk.2) (.int .i64 1000)) (fun _ h_ => h_.1))))) (Kd.R_lt (by (with_reducible repeat (first | apply Kd.R_alloc | apply Kd.R_drewN | apply Kd.R_drew)); exact (Kd.R_mono (Kd.R_far (p := ⟨gb242, 2, none⟩) (Kd.R_far (p := ⟨gb242, 1, none⟩) (Kd.R_far (p := ⟨gb242, 0, none⟩) (Kd.R_mono HO233.out (fun k_ hk => (⟨hk, hk.2⟩ : _ ∧ k_ ≠ gb242))) (fun _ hk => hk.2) (.int .i64 1)) (fun _ hk => hk.2) (.int .i64 0)) (fun _ hk => hk.2) (.int .i64 1000)) (fun _ h_ => h_.1))))) (Kd.R_lt (by (with_reducible repeat (first | apply Kd.R_alloc | apply Kd.R_drewN | apply Kd.R_drew)); exact (Kd.R_mono (Kd.R_far (p := ⟨gb242, 2, none⟩) (Kd.R_far (p := ⟨gb242, 1, none⟩) (Kd.R_far (p := ⟨gb242, 0, none⟩) (Kd.R_mono HO236.out (fun k_ hk => (⟨hk, hk.2⟩ : _ ∧ k_ ≠ gb242))) (fun _ hk => hk.2) (.int .i64 1)) (fun _ hk => hk.2) (.int .i64 0)) (fun _ hk => hk.2) (.int .i64 1000)) (fun _ h_ => h_.1))))) (Kd.R_lt (by (with_reducible repeat (first | apply Kd.R_alloc | apply Kd.R_drewN | apply Kd.R_drew)); exact (Kd.R_mono (Kd.R_far (p := ⟨gb242, 2, none⟩) (Kd.R_far (p := ⟨gb242, 1, none⟩) (Kd.R_far (p := ⟨gb242, 0, none⟩) (Kd.R_mono HO238.out (fun k_ hk => (⟨hk, hk.2⟩ : _ ∧ k_ ≠ gb242))) (fun _ hk => hk.2) (.int .i64 1)) (fun _ hk => hk.2) (.int .i64 0)) (fun _ hk => hk.2) (.int .i64 1000)) (fun _ h_ => h_.1))))) (Kd.R_lt (by (with_reducible repeat (first | apply Kd.R_alloc | apply Kd.R_drewN | apply Kd.R_drew)); exact (Kd.R_mono (Kd.R_far (p := ⟨gb242, 2, none⟩) (Kd.R_far (p := ⟨gb242, 1, none⟩) (Kd.R_far (p := ⟨gb242, 0, none⟩) (Kd.R_mono HO241.out (fun k_ hk => (⟨hk, hk.2⟩ : _ ∧ k_ ≠ gb242))) (fun _ hk => hk.2) (.int .i64 1)) (fun _ hk => hk.2) (.int .i64 0)) (fun _ hk => hk.2) (.int .i64 1000)) (fun _ h_ => h_.1))))) (g := gb225) (o := .cells #[.int .i64 1, .int .i64 100, .int .i64 1500] 26 (0, 0)) (by (with_reducible repeat first | apply bN | apply bD | apply bA); refine blk_far ?_ NB225_242.out _; (with_reducible repeat first | apply bN | apply bD | apply bA); refine blk_far ?_ NB225_242.out _; (with_reducible repeat first | apply bN | apply bD | apply bA); refine blk_far ?_ NB225_242.out _; (with_reducible repeat first | apply bN | apply bD | apply bA); exact BK225.out)) (g := gb242) (o := .cells #[.int .i64 1, .int .i64 0, .int .i64 1000] 26 (0, 0)) (by (with_reducible repeat first | apply bN | apply bD | apply bA); refine blk_put (cs := #[.int .i64 1, .int .i64 0, .int .i64 0]) ?_ 2 _ rfl; (with_reducible repeat first | apply bN | apply bD | apply bA); refine blk_put (cs := #[.int .i64 1, .int .i64 0, .int .i64 0]) ?_ 1 _ rfl; (with_reducible repeat first | apply bN | apply bD | apply bA); refine blk_put (cs := #[.int .i64 0, .int .i64 0, .int .i64 0]) ?_ 0 _ rfl; (with_reducible repeat first | apply bN | apply bD | apply bA); exact BK242.out)) (below_size (eG HB.out))); have n12_ := Aside0.mk (blk_below (g := gb225) (o := .cells #[.int .i64 1, .int .i64 100, .int .i64 1500] 26 (0, 0)) (by (with_reducible repeat first | apply bN | apply bD | apply bA); refine blk_far ?_ NB225_242.out _; (with_reducible repeat first | apply bN | apply bD | apply bA); refine blk_far ?_ NB225_242.out _; (with_reducible repeat first | apply bN | apply bD | apply bA); refine blk_far ?_ NB225_242.out _; (with_reducible repeat first | apply bN | apply bD | apply bA); exact BK225.out) hb); have n13_ := Aside0.mk (blk_below (g := gb234) (o := .cells #[.int .i64 2, .slice Ao49 [(⟨2, 7, 9⟩ : S26)].length co49] 24 (0, 0)) (by (with_reducible repeat first | apply bN | apply bD | apply bA); refine blk_far ?_ NB234_242.out _; (with_reducible repeat first | apply bN | apply bD | apply bA); refine blk_far ?_ NB234_242.out _; (with_reducible repeat first | apply bN | apply bD | apply bA); refine blk_far ?_ NB234_242.out _; (with_reducible repeat first | apply bN | apply bD | apply bA); exact BK234.out) hb); have n14_ := Aside0.mk (blk_below (g := gb239) (o := .cells #[.int .i64 3, .slice Ao57 [(⟨1, 0, 1000⟩ : S26), (⟨1, 50, 7⟩ : S26), (⟨1, 100, 1500⟩ : S26)].length co57] 24 (0, 0)) (by (with_reducible repeat first | apply bN | apply bD | apply bA); refine blk_far ?_ NB239_242.out _; (with_reducible repeat first | apply bN | apply bD | apply bA); refine blk_far ?_ NB239_242.out _; (with_reducible repeat first | apply bN | apply bD | apply bA); refine blk_far ?_ NB239_242.out _; (with_reducible repeat first | apply bN | apply bD | apply bA); exact BK239.out) hb); have n15_ := Aside0.mk (blk_below (g := gb242) (o := .cells #[.int .i64 1, .int .i64 0, .int .i64 1000] 26 (0, 0)) (by (with_reducible repeat first | apply bN | apply bD | apply bA); refine blk_put (cs := #[.int .i64 1, .int .i64 0, .int .i64 0]) ?_ 2 _ rfl; (with_reducible repeat first | apply bN | apply bD | apply bA); refine blk_put (cs := #[.int .i64 1, .int .i64 0, .int .i64 0]) ?_ 1 _ rfl; (with_reducible repeat first | apply bN | apply bD | apply bA); refine blk_put (cs := #[.int .i64 0, .int .i64 0, .int .i64 0]) ?_ 0 _ rfl; (with_reducible repeat first | apply bN | apply bD | apply bA); exact BK242.out) hb); have n16_ := Aside0.mk (below_step (eG HB.out) hb); clear HO218; clear HO220; clear HO222; clear HO224; clear HO227; clear HO229; clear HO231; clear HO233; clear HO236; clear HO238; clear HO241; clear BK225; clear BK234; clear BK239; clear BK242; clear HB; have HO218 := n0_; have HO220 := n1_; have HO222 := n2_; have HO224 := n3_; have HO227 := n4_; have HO229 := n5_; have HO231 := n6_; have HO233 := n7_; have HO236 := n8_; have HO238 := n9_; have HO241 := n10_; have HO244 := n11_; have BK225 := n12_; have BK234 := n13_; have BK239 := n14_; have BK242 := n15_; have HB := n16_; clear n0_ n1_ n2_ n3_ n4_ n5_ n6_ n7_ n8_ n9_ n10_ n11_ n12_ n13_ n14_ n15_ n16_; (try clear hb); (try clear hb2); (try clear hk); (try clear hi); (try clear ho0); obtain ⟨Ao67, co67, eo67⟩ := Kd.R_slice HO244.out; subst eo67) | ((with_reducible refine gate_callee (f := 13) rfl ?_); refine goesL_ (some 70) rfl rfl Tryz.func13 (by kernel_rfl) rfl #[.agg #[.int .i64 3, .slice Ao67 [(⟨1, 0, 1000⟩ : S26), (⟨1, 100, 1500⟩ : S26)].length co67]] rfl (by (try simp only [List.map_toArray, List.map_cons, List.map_nil]); first | done | rfl | (simp only [List.length_drop, List.length_take]; rfl)) ?_; (with_reducible refine (tariff_Check.calls 400 3 _ _ [(⟨1, 0, 1000⟩ : S26), (⟨1, 100, 1500⟩ : S26)] (-1) 0 _ ?side1 ?side2 A19.out).mono ?_); (case side1 => repeat (first | exact (Kd.R_reads' HO244.out).2.2 | (with_reducible refine Kd.C_alloc ?_ _) | (with_reducible refine Kd.C_drewN ?_ _) | (with_reducible refine Kd.C_drew ?_))); (case side2 => exact (Kd.R_reads' HO244.out).2.1); rintro e w68 ⟨rfl, hb⟩; refine ⟨_, rfl, ?_⟩; have n0_ := Aside0.mk (Kd.R_below (rG HO218.out) hb); have n1_ := Aside0.mk (Kd.R_below (rG HO220.out) hb); have n2_ := Aside0.mk (Kd.R_below (rG HO222.out) hb); have n3_ := Aside0.mk (Kd.R_below (rG HO224.out) hb); have n4_ := Aside0.mk (Kd.R_below (rG HO227.out) hb); have n5_ := Aside0.mk (Kd.R_below (rG HO229.out) hb); have n6_ := Aside0.mk (Kd.R_below (rG HO231.out) hb); have n7_ := Aside0.mk (Kd.R_below (rG HO233.out) hb); have n8_ := Aside0.mk (Kd.R_below (rG HO236.out) hb); have n9_ := Aside0.mk (Kd.R_below (rG HO238.out) hb); have n10_ := Aside0.mk (Kd.R_below (rG HO241.out) hb); have n11_ := Aside0.mk (Kd.R_below (rG HO244.out) hb); have n12_ := Aside0.mk (blk_below (bG BK225.out) hb); have n13_ := Aside0.mk (blk_below (bG BK234.out) hb); have n14_ := Aside0.mk (blk_below (bG BK239.out) hb); have n15_ := Aside0.mk (blk_below (bG BK242.out) hb); have n16_ := Aside0.mk (below_step (eG HB.out) hb); clear HO218; clear HO220; clear HO222; clear HO224; clear HO227; clear HO229; clear HO231; clear HO233; clear HO236; clear HO238; clear HO241; clear HO244; clear BK225; clear BK234; clear BK239; clear BK242; clear HB; have HO218 := n0_; have HO220 := n1_; have HO222 := n2_; have HO224 := n3_; have HO227 := n4_; have HO229 := n5_; have HO231 := n6_; have HO233 := n7_; have HO236 := n8_; have HO238 := n9_; have HO241 := n10_; have HO244 := n11_; have BK225 := n12_; have BK234 := n13_; have BK239 := n14_; have BK242 := n15_; have HB := n16_; clear n0_ n1_ n2_ n3_ n4_ n5_ n6_ n7_ n8_ n9_ n10_ n11_ n12_ n13_ n14_ n15_ n16_; (try clear hb); (try clear hb2); (try clear hk); (try clear hi); have hcz69_0 : w68.cell? ⟨gb225, 0, none⟩ = some (.int .i64 1) := (blk_cell BK225.out 0).trans rfl; have hcz69_1 : w68.cell? ⟨gb225, 1, none⟩ = some (.int .i64 100) := (blk_cell BK225.out 1).trans rfl; have hcz69_2 : w68.cell? ⟨gb225, 2, none⟩ = some (.int .i64 1500) := (blk_cell BK225.out 2).trans rfl; have hfz69_0 := blk_frozen BK225.out 0; have hfz69_1 := blk_frozen BK225.out 1; have hfz69_2 := blk_frozen BK225.out 2) | ((with_reducible refine gate_dst (N := 112) rfl ?_); (try (refine gate_guard (by rfl) ?_; dsimp only)); refine Kd.R_lit (Kd.int .i64) _ 3 ?hg (N := 112) ?hd (xs := ([100] : List Int)) (inner := [.int .i64 100]) (ok := fun _ => True) (okp := fun _ => True) ?hr ?hp (fun _ hk => hk) trivial (Below.refl _ _) (Nat.le_refl _) (by simp) ?_; (case hd => rfl); (case hg => rfl); (case hr => first | (go_simp; done) | (go_simp; rfl)); (case hp => exact (Reps.one (show Kd.M (Kd.int .i64) _ _ _ 100 [.int .i64 100] from rfl) (Reps.none _ _))); intro v246 w70 ho71 hb hg_ hnew_; clear hg_ hnew_; (first | rw [← Ny245.out] at ho71 | (simp only [Int.reduceToNat] at ho71; rw [← Ny245.out] at ho71)); have n0_ := Aside0.mk (Kd.R_below (rG HO218.out) hb); have n1_ := Aside0.mk (Kd.R_below (rG HO220.out) hb); have n2_ := Aside0.mk (Kd.R_below (rG HO222.out) hb); have n3_ := Aside0.mk (Kd.R_below (rG HO224.out) hb); have n4_ := Aside0.mk (Kd.R_below (rG HO227.out) hb); have n5_ := Aside0.mk (Kd.R_elder' (rG HO229.out) (Kd.R_base ho71) hb); have n6_ := Aside0.mk (Kd.R_below (rG HO231.out) hb); have n7_ := Aside0.mk (Kd.R_below (rG HO233.out) hb); have n8_ := Aside0.mk (Kd.R_below (rG HO236.out) hb); have n9_ := Aside0.mk (Kd.R_below (rG HO238.out) hb); have n10_ := Aside0.mk (Kd.R_below (rG HO241.out) hb); have n11_ := Aside0.mk (Kd.R_below (rG HO244.out) hb); have n12_ := Aside0.mk (Kd.R_lower (Kd.R_new' ho71 (Kd.R_lt (rG HO229.out))) (below_size (eG HB.out))); have n13_ := Aside0.mk (blk_below (bG BK225.out) hb); have n14_ := Aside0.mk (blk_below (bG BK234.out) hb); have n15_ := Aside0.mk (blk_below (bG BK239.out) hb); have n16_ := Aside0.mk (blk_below (bG BK242.out) hb); have n17_ := Aside0.mk (below_step (eG HB.out) hb); clear HO218; clear HO220; clear HO222; clear HO224; clear HO227; clear HO229; clear HO231; clear HO233; clear HO236; clear HO238; clear HO241; clear HO244; clear BK225; clear BK234; clear BK239; clear BK242; clear HB; have HO218 := n0_; have HO220 := n1_; have HO222 := n2_; have HO224 := n3_; have HO227 := n4_; have HO229 := n5_; have HO231 := n6_; have HO233 := n7_; have HO236 := n8_; have HO238 := n9_; have HO241 := n10_; have HO244 := n11_; have HO247 := n12_; have BK225 := n13_; have BK234 := n14_; have BK239 := n15_; have BK242 := n16_; have HB := n17_; clear n0_ n1_ n2_ n3_ n4_ n5_ n6_ n7_ n8_ n9_ n10_ n11_ n12_ n13_ n14_ n15_ n16_ n17_; clear hb ho71; obtain ⟨Ao72, co72, eo72⟩ := Kd.R_slice HO229.out; subst eo72; obtain ⟨Ao73, co73, eo73⟩ := Kd.R_slice HO247.out; subst eo73) | (go_at_call 25; refine calls_of_args (args' := #[.slice Ao72 ([100] : List Int).length co72, .slice Ao73 y245.length co73]) (by first | rfl | done) ?_; (with_reducible refine (slices_Equal_int_int.calls 400 _ _ ([100] : List Int) _ _ y245 true _ ?side1 ?side2 ?side3 ?side4 A20.out).mono ?_); (case side1 => repeat (first | exact (Kd.R_reads' HO229.out).2.2 | (with_reducible refine Kd.C_alloc ?_ _) | (with_reducible refine Kd.C_drewN ?_ _) | (with_reducible refine Kd.C_drew ?_))); (case side2 => exact (Kd.R_reads' HO229.out).2.1); (case side3 => repeat (first | exact (Kd.R_reads' HO247.out).2.2 | (with_reducible refine Kd.C_alloc ?_ _) | (with_reducible refine Kd.C_drewN ?_ _) | (with_reducible refine Kd.C_drew ?_))); (case side4 => exact (Kd.R_reads' HO247.out).2.1); rintro e w' ⟨rfl, ⟨nd, rfl⟩⟩; have hcz74_0 : w70.cell? ⟨gb234, 0, none⟩ = some (.int .i64 2) := (blk_cell BK234.out 0).trans rfl; have hcz74_1 : w70.cell? ⟨gb234, 1, none⟩ = some (.slice Ao49 [(⟨2, 7, 9⟩ : S26)].length co49) := (blk_cell BK234.out 1).trans rfl; have hfz74_0 := blk_frozen BK234.out 0; have hfz74_1 := blk_frozen BK234.out 1) | ((with_reducible refine gate_dst (N := 126) rfl ?_); (try (refine gate_guard (by rfl) ?_; dsimp only)); refine Kd.R_lit k26 _ 26 ?hg (N := 126) ?hd (xs := ([(⟨2, 7, 9⟩ : S26)] : List (S26))) (inner := [.int .i64 2, .int .i64 7, .int .i64 9]) (ok := fun _ => True) (okp := fun _ => True) ?hr ?hp (fun _ hk => hk) trivial (Below.refl _ _) (Nat.le_refl _) (by simp) ?_; (case hd => rfl); (case hg => rfl); (case hr => first | (go_simp; done) | (go_simp; rfl)); (case hp => exact (Reps.c3 (show Kd.M k26 _ _ _ (⟨2, 7, 9⟩ : S26) [.int .i64 2, .int .i64 7, .int .i64 9] from (k26_mkM _ _ _ (⟨2, 7, 9⟩ : S26) )) (Reps.none _ _))); intro v249 w75 ho76 hb hg_ hnew_; clear hg_ hnew_; (first | rw [← Ny248.out] at ho76 | (simp only [Int.reduceToNat] at ho76; rw [← Ny248.out] at ho76)); have n0_ := Aside0.mk (Kd.R_elder' (rG HO218.out) (Kd.R_base ho76) hb); have n1_ := Aside0.mk (Kd.R_elder' (rG HO220.out) (Kd.R_base ho76) hb); have n2_ := Aside0.mk (Kd.R_elder' (rG HO222.out) (Kd.R_base ho76) hb); have n3_ := Aside0.mk (Kd.R_elder' (rG HO224.out) (Kd.R_base ho76) hb); have n4_ := Aside0.mk (Kd.R_elder' (rG HO227.out) (Kd.R_base ho76) hb); have n5_ := Aside0.mk (Kd.R_below (rG HO229.out) hb); have n6_ := Aside0.mk (Kd.R_elder' (rG HO231.out) (Kd.R_base ho76) hb); have n7_ := Aside0.mk (Kd.R_elder' (rG HO233.out) (Kd.R_base ho76) hb); have n8_ := Aside0.mk (Kd.R_elder' (rG HO236.out) (Kd.R_base ho76) hb); have n9_ := Aside0.mk (Kd.R_elder' (rG HO238.out) (Kd.R_base ho76) hb); have n10_ := Aside0.mk (Kd.R_elder' (rG HO241.out) (Kd.R_base ho76) hb); have n11_ := Aside0.mk (Kd.R_elder' (rG HO244.out) (Kd.R_base ho76) hb); have n12_ := Aside0.mk (Kd.R_below (rG HO247.out) hb); have n13_ := Aside0.mk (Kd.R_lower (Kd.R_newB (Kd.R_newB (Kd.R_new' (Kd.R_new' (Kd.R_new' (Kd.R_new' (Kd.R_new' (Kd.R_new' (Kd.R_new' (Kd.R_new' (Kd.R_new' (Kd.R_new' (Kd.R_new' ho76 (Kd.R_lt (rG HO218.out))) (Kd.R_lt (rG HO220.out))) (Kd.R_lt (rG HO222.out))) (Kd.R_lt (rG HO224.out))) (Kd.R_lt (rG HO227.out))) (Kd.R_lt (rG HO231.out))) (Kd.R_lt (rG HO233.out))) (Kd.R_lt (rG HO236.out))) (Kd.R_lt (rG HO238.out))) (Kd.R_lt (rG HO241.out))) (Kd.R_lt (rG HO244.out))) (bG BK225.out)) (bG BK242.out)) (below_size (eG HB.out))); have n14_ := Aside0.mk (blk_below (bG BK225.out) hb); have n15_ := Aside0.mk (blk_below (bG BK234.out) hb); have n16_ := Aside0.mk (blk_below (bG BK239.out) hb); have n17_ := Aside0.mk (blk_below (bG BK242.out) hb); have n18_ := Aside0.mk (below_step (eG HB.out) hb); clear HO218; clear HO220; clear HO222; clear HO224; clear HO227; clear HO229; clear HO231; clear HO233; clear HO236; clear HO238; clear HO241; clear HO244; clear HO247; clear BK225; clear BK234; clear BK239; clear BK242; clear HB; have HO218 := n0_; have HO220 := n1_; have HO222 := n2_; have HO224 := n3_; have HO227 := n4_; have HO229 := n5_; have HO231 := n6_; have HO233 := n7_; have HO236 := n8_; have HO238 := n9_; have HO241 := n10_; have HO244 := n11_; have HO247 := n12_; have HO250 := n13_; have BK225 := n14_; have BK234 := n15_; have BK239 := n16_; have BK242 := n17_; have HB := n18_; clear n0_ n1_ n2_ n3_ n4_ n5_ n6_ n7_ n8_ n9_ n10_ n11_ n12_ n13_ n14_ n15_ n16_ n17_ n18_; clear hb ho76; obtain ⟨Ao77, co77, eo77⟩ := Kd.R_slice HO250.out; subst eo77) | (go_at_call 18; refine calls_of_args (args' := #[.agg #[.int .i64 2, .slice Ao49 [(⟨2, 7, 9⟩ : S26)].length co49], .agg #[.int .i64 2, .slice Ao77 y248.length co77]]) (by first | rfl | done) ?_; (with_reducible refine (spileref46_Same.calls 400 2 _ _ [(⟨2, 7, 9⟩ : S26)] 2 _ _ y248 true _ ?side1 ?side2 ?side3 ?side4 A21.out).mono ?_); (case side1 => repeat (first | exact (Kd.R_reads' HO233.out).2.2 | (with_reducible refine Kd.C_alloc ?_ _) | (with_reducible refine Kd.C_drewN ?_ _) | (with_reducible refine Kd.C_drew ?_))); (case side2 => exact (Kd.R_reads' HO233.out).2.1); (case side3 => repeat (first | exact (Kd.R_reads' HO250.out).2.2 | (with_reducible refine Kd.C_alloc ?_ _) | (with_reducible refine Kd.C_drewN ?_ _) | (with_reducible refine Kd.C_drew ?_))); (case side4 => exact (Kd.R_reads' HO250.out).2.1); rintro e w78 ⟨rfl, hb⟩; have n0_ := Aside0.mk (Kd.R_below (rG HO218.out) hb); have n1_ := Aside0.mk (Kd.R_below (rG HO220.out) hb); have n2_ := Aside0.mk (Kd.R_below (rG HO222.out) hb); have n3_ := Aside0.mk (Kd.R_below (rG HO224.out) hb); have n4_ := Aside0.mk (Kd.R_below (rG HO227.out) hb); have n5_ := Aside0.mk (Kd.R_below (rG HO229.out) hb); have n6_ := Aside0.mk (Kd.R_below (rG HO231.out) hb); have n7_ := Aside0.mk (Kd.R_below (rG HO233.out) hb); have n8_ := Aside0.mk (Kd.R_below (rG HO236.out) hb); have n9_ := Aside0.mk (Kd.R_below (rG HO238.out) hb); have n10_ := Aside0.mk (Kd.R_below (rG HO241.out) hb); have n11_ := Aside0.mk (Kd.R_below (rG HO244.out) hb); have n12_ := Aside0.mk (Kd.R_below (rG HO247.out) hb); have n13_ := Aside0.mk (Kd.R_below (rG HO250.out) hb); have n14_ := Aside0.mk (blk_below (bG BK225.out) hb); have n15_ := Aside0.mk (blk_below (bG BK234.out) hb); have n16_ := Aside0.mk (blk_below (bG BK239.out) hb); have n17_ := Aside0.mk (blk_below (bG BK242.out) hb); have n18_ := Aside0.mk (below_step (eG HB.out) hb); clear HO218; clear HO220; clear HO222; clear HO224; clear HO227; clear HO229; clear HO231; clear HO233; clear HO236; clear HO238; clear HO241; clear HO244; clear HO247; clear HO250; clear BK225; clear BK234; clear BK239; clear BK242; clear HB; have HO218 := n0_; have HO220 := n1_; have HO222 := n2_; have HO224 := n3_; have HO227 := n4_; have HO229 := n5_; have HO231 := n6_; have HO233 := n7_; have HO236 := n8_; have HO238 := n9_; have HO241 := n10_; have HO244 := n11_; have HO247 := n12_; have HO250 := n13_; have BK225 := n14_; have BK234 := n15_; have BK239 := n16_; have BK242 := n17_; have HB := n18_; clear n0_ n1_ n2_ n3_ n4_ n5_ n6_ n7_ n8_ n9_ n10_ n11_ n12_ n13_ n14_ n15_ n16_ n17_ n18_; (try clear hb); (try clear hb2); (try clear hk); (try clear hi); have hcz79_0 : w78.cell? ⟨gb239, 0, none⟩ = some (.int .i64 3) := (blk_cell BK239.out 0).trans rfl; have hcz79_1 : w78.cell? ⟨gb239, 1, none⟩ = some (.slice Ao57 [(⟨1, 0, 1000⟩ : S26), (⟨1, 50, 7⟩ : S26), (⟨1, 100, 1500⟩ : S26)].length co57) := (blk_cell BK239.out 1).trans rfl; have hfz79_0 := blk_frozen BK239.out 0; have hfz79_1 := blk_frozen BK239.out 1; have p251 : 0 ≤ (1 : Int) := (by omega); have q251 : 1 < ([(⟨1, 0, 1000⟩ : S26), (⟨1, 50, 7⟩ : S26), (⟨1, 100, 1500⟩ : S26)].length : Int) := of_decide_eq_true (by first | (with_reducible assumption) | assumption); obtain ⟨ad251, e251, hx251_0, hx251_1, hx251_2⟩ := at_T26 (Kd.R_reads' HO238.out).2.2 1 p251 q251; cases e251; (try simp only [show (1 : Int).toNat = 1 from rfl, Nat.reduceMul, Nat.reduceEqDiff, Go.Addr.add, ↓reduceIte] at hx251_0); (try simp only [show (1 : Int).toNat = 1 from rfl, Nat.reduceMul, Nat.reduceEqDiff, Go.Addr.add, ↓reduceIte] at hx251_1); (try simp only [show (1 : Int).toNat = 1 from rfl, Nat.reduceMul, Nat.reduceEqDiff, Go.Addr.add, ↓reduceIte] at hx251_2); have qi251 : (1 < [(⟨1, 0, 1000⟩ : S26), (⟨1, 50, 7⟩ : S26), (⟨1, 100, 1500⟩ : S26)].length) = True := eq_true (by omega); (try rw [show ((1 : Int)).toNat = 1 from rfl] at hx251_0); (try rw [show 1 * 3 = 3 from rfl] at hx251_0); (try rw [show ((1 : Int)).toNat = 1 from rfl] at hx251_1); (try rw [show 1 * 3 = 3 from rfl] at hx251_1); (try rw [show ((1 : Int)).toNat = 1 from rfl] at hx251_2); (try rw [show 1 * 3 = 3 from rfl] at hx251_2); replace p251 := eq_true p251; replace q251 := eq_true q251; have hcz80_0 : w78.cell? ⟨gb242, 0, none⟩ = some (.int .i64 1) := (blk_cell BK242.out 0).trans rfl; have hcz80_1 : w78.cell? ⟨gb242, 1, none⟩ = some (.int .i64 0) := (blk_cell BK242.out 1).trans rfl; have hcz80_2 : w78.cell? ⟨gb242, 2, none⟩ = some (.int .i64 1000) := (blk_cell BK242.out 2).trans rfl; have hfz80_0 := blk_frozen BK242.out 0; have hfz80_1 := blk_frozen BK242.out 1; have hfz80_2 := blk_frozen BK242.out 2))
    go_ret
    exact ⟨by first | rfl | (simp [errW_none, errW_some] <;> rfl) | (simp [*, errW_none, errW_some] <;> rfl), eG HB.out⟩
   · rw [if_neg c24] at H; exact (c24 rfl).elim
  · rw [if_neg c23] at H; exact absurd H (by simp)
 · rw [if_neg c22] at H; exact (c22 rfl).elim
def spileref46_Few.f (a0_0 : Int) (l0_1 : List (S26)) : Option (Bool) := if (l0_1.length : Int) ≤ 20 then (some true) else (some ((l0_1.length : Int) == 65))
set_option maxHeartbeats 8000000 in
set_option maxRecDepth 100000 in
theorem spileref46_Few.calls (a0_0 : Int) (A0_1 : Option Addr) (c0_1 : Nat) (l0_1 : List (S26)) (r : Bool) (w : World) (hr0_1 : Kd.C k26 w A0_1 l0_1.length l0_1) (hc0_1 : l0_1.length ≤ c0_1) (h : spileref46_Few.f a0_0 l0_1 = some r) :
  Calls Tryz.prog 12 #[.agg #[.int .i64 a0_0, .slice A0_1 l0_1.length c0_1]] w fun e w' => e = .returned (.bool r) ∧ Below w.heap.size w w' := by
 have hu24 := Tryz.underlying24; have HR0_1 := Aside0.mk hr0_1; have HC0_1 := Aside0.mk hc0_1; clear hr0_1 hc0_1; have HB := Aside0.mk (Below.refl w.heap.size w); have H : (if (l0_1.length : Int) ≤ 20 then (some true) else (some ((l0_1.length : Int) == 65))) = some r := h; clear h; by_cases c2 : (l0_1.length : Int) ≤ 20
 ·
  rw [if_pos c2] at H; have c2b0 : decide ((l0_1.length : Int) ≤ 20) = true := decide_eq_true c2; have c2b1 : decide (l0_1.length ≤ 20) = true := decide_eq_true (by omega); clear c2; obtain rfl := Option.some.inj H; go_enter Tryz.func12, Tryz.ntmps12
  go_wp2_with (first | ((with_reducible refine gate_dst (N := 1) rfl ?_); (try (refine gate_guard (by rfl) ?_; dsimp only)); refine box_event ?hg (N := 1) ?hd (cs := #[.int .i64 a0_0, .slice A0_1 l0_1.length c0_1]) (t := 24) ?hr ?_; (case hd => rfl); (case hg => rfl); (case hr => first | (go_simp; done) | (go_simp; rfl)); intro gb252 hg w3 hbox hb; have n0_ := Aside0.mk (below_step (eG HB.out) hb); have n1_ := Aside0.mk (hbox); have n2_ := Aside0.mk ((by rw [hg]; exact (below_size (eG HB.out)) : w.heap.size ≤ gb252)); have n3_ := Aside0.mk ((by rw [hg]; exact (below_size (eG HB.out)) : w.heap.size ≤ gb252)); clear HB; have HB := n0_; have BK252 := n1_; have GW252 := n2_; have GE252 := n3_; have ig252_ := geI GE252; clear n0_ n1_ n2_ n3_; clear hb hbox hg; have hcz4_0 : w3.cell? ⟨gb252, 0, none⟩ = some (.int .i64 a0_0) := (blk_cell BK252.out 0).trans rfl; have hcz4_1 : w3.cell? ⟨gb252, 1, none⟩ = some (.slice A0_1 l0_1.length c0_1) := (blk_cell BK252.out 1).trans rfl; have hfz4_0 := blk_frozen BK252.out 0; have hfz4_1 := blk_frozen BK252.out 1))
  go_ret
  exact ⟨by first | rfl | (simp [errW_none, errW_some] <;> rfl) | (simp [*, errW_none, errW_some] <;> rfl), eG HB.out⟩
 ·
  rw [if_neg c2] at H; have c2b0 : decide ((l0_1.length : Int) ≤ 20) = false := decide_eq_false c2; have c2b1 : decide (l0_1.length ≤ 20) = false := decide_eq_false (by omega); clear c2; obtain rfl := Option.some.inj H; go_enter Tryz.func12, Tryz.ntmps12
  go_wp2_with (first | ((with_reducible refine gate_dst (N := 1) rfl ?_); (try (refine gate_guard (by rfl) ?_; dsimp only)); refine box_event ?hg (N := 1) ?hd (cs := #[.int .i64 a0_0, .slice A0_1 l0_1.length c0_1]) (t := 24) ?hr ?_; (case hd => rfl); (case hg => rfl); (case hr => first | (go_simp; done) | (go_simp; rfl)); intro gb252 hg w5 hbox hb; have n0_ := Aside0.mk (below_step (eG HB.out) hb); have n1_ := Aside0.mk (hbox); have n2_ := Aside0.mk ((by rw [hg]; exact (below_size (eG HB.out)) : w.heap.size ≤ gb252)); have n3_ := Aside0.mk ((by rw [hg]; exact (below_size (eG HB.out)) : w.heap.size ≤ gb252)); clear HB; have HB := n0_; have BK252 := n1_; have GW252 := n2_; have GE252 := n3_; have ig252_ := geI GE252; clear n0_ n1_ n2_ n3_; clear hb hbox hg; have hcz6_0 : w5.cell? ⟨gb252, 0, none⟩ = some (.int .i64 a0_0) := (blk_cell BK252.out 0).trans rfl; have hcz6_1 : w5.cell? ⟨gb252, 1, none⟩ = some (.slice A0_1 l0_1.length c0_1) := (blk_cell BK252.out 1).trans rfl; have hfz6_0 := blk_frozen BK252.out 0; have hfz6_1 := blk_frozen BK252.out 1))
  go_ret
  exact ⟨by first | rfl | (simp [errW_none, errW_some] <;> rfl) | (simp [*, errW_none, errW_some] <;> rfl), eG HB.out⟩
def spilelaw46_cp.f (a0_0 : Int) (l0_1 : List (S26)) : Option (Int × (List (S26))) := (slices_Clone26.f l0_1).bind fun t255 => (some (a0_0, t255))
set_option maxHeartbeats 8000000 in
set_option maxRecDepth 100000 in
theorem spilelaw46_cp.calls (a0_0 : Int) (A0_1 : Option Addr) (c0_1 : Nat) (l0_1 : List (S26)) (r1 : Int) (r2 : List (S26)) (w : World) (hr0_1 : Kd.C k26 w A0_1 l0_1.length l0_1) (hc0_1 : l0_1.length ≤ c0_1) (h : spilelaw46_cp.f a0_0 l0_1 = some (r1, r2)) :
  Calls Tryz.prog 14 #[.agg #[.int .i64 a0_0, .slice A0_1 l0_1.length c0_1]] w fun e w' => ∃ v1_ : Value, e = .returned (.agg #[.int .i64 r1, v1_]) ∧ Kd.R k26 26 w' w.heap.size (fun _ => True) v1_ r2 ∧ Below w.heap.size w w' := by
 have hu24 := Tryz.underlying24; have HR0_1 := Aside0.mk hr0_1; have HC0_1 := Aside0.mk hc0_1; clear hr0_1 hc0_1; have HB := Aside0.mk (Below.refl w.heap.size w); have H : ((slices_Clone26.f l0_1).bind fun t255 => (some (a0_0, t255))) = some (r1, r2) := h; clear h; replace H := Option.bind_eq_some_iff.mp H; obtain ⟨t255, A20, H⟩ := H; replace H : (some (a0_0, t255)) = some (r1, r2) := H; have A2 := Aside0.mk A20; clear A20; simp only [Option.some.injEq, Prod.mk.injEq] at H; obtain ⟨rfl, rfl⟩ := H; go_enter Tryz.func14, Tryz.ntmps14
 go_wp2_with (first | ((with_reducible refine gate_dst (N := 1) rfl ?_); refine box_event ?hg (N := 1) ?hd (cs := #[.int .i64 a0_0, .slice A0_1 l0_1.length c0_1]) (t := 24) ?hr ?_; (case hd => rfl); (case hg => rfl); (case hr => first | (go_simp; done) | (go_simp; rfl)); intro gb253 hg w3 hbox hb; have n0_ := Aside0.mk (below_step (eG HB.out) hb); have n1_ := Aside0.mk (hbox); have n2_ := Aside0.mk ((by rw [hg]; exact (below_size (eG HB.out)) : w.heap.size ≤ gb253)); have n3_ := Aside0.mk ((by rw [hg]; exact (below_size (eG HB.out)) : w.heap.size ≤ gb253)); clear HB; have HB := n0_; have BK253 := n1_; have GW253 := n2_; have GE253 := n3_; have ig253_ := geI GE253; clear n0_ n1_ n2_ n3_; clear hb hbox hg) | ((with_reducible refine gate_dst (N := 2) rfl ?_); refine box_event ?hg (N := 2) ?hd (cs := #[.int .i64 0, .slice none 0 0]) (t := 24) ?hr ?_; (case hd => rfl); (case hg => rfl); (case hr => first | (go_simp; done) | (go_simp; rfl)); intro gb254 hg w4 hbox hb; have n0_ := Aside0.mk (blk_below (bG BK253.out) hb); have n1_ := Aside0.mk (below_step (eG HB.out) hb); have n2_ := Aside0.mk (hbox); have n3_ := Aside0.mk ((by rw [hg]; exact (below_size (eG HB.out)) : w.heap.size ≤ gb254)); have n4_ := Aside0.mk ((by rw [hg]; exact (below_size (eG HB.out)) : w.heap.size ≤ gb254)); have n5_ := Aside0.mk ((by rw [hg]; exact Nat.ne_of_lt (blk_lt (bG BK253.out)) : gb253 ≠ gb254)); have n6_ := Aside0.mk ((by rw [hg]; exact Nat.ne_of_gt (blk_lt (bG BK253.out)) : gb254 ≠ gb253)); clear BK253; clear HB; have BK253 := n0_; have HB := n1_; have BK254 := n2_; have GW254 := n3_; have GE254 := n4_; have ig254_ := geI GE254; have NB253_254 := n5_; have NB254_253 := n6_; clear n0_ n1_ n2_ n3_ n4_ n5_ n6_; clear hb hbox hg; have hnb5 := NB253_254.out; have hnc5 := NB254_253.out; have hcz6_0 : w4.cell? ⟨gb253, 0, none⟩ = some (.int .i64 a0_0) := (blk_cell BK253.out 0).trans rfl; have hcz6_1 : w4.cell? ⟨gb253, 1, none⟩ = some (.slice A0_1 l0_1.length c0_1) := (blk_cell BK253.out 1).trans rfl; have hfz6_0 := blk_frozen BK253.out 0; have hfz6_1 := blk_frozen BK253.out 1) | ((with_reducible refine gate_callee (f := 38) rfl ?_); refine goesL_ (some 5) rfl rfl Tryz.func38 (by kernel_rfl) rfl #[.slice A0_1 l0_1.length c0_1] rfl (by (try simp only [List.map_toArray, List.map_cons, List.map_nil]); first | done | rfl | (simp only [List.length_drop, List.length_take]; rfl)) ?_; (with_reducible refine (slices_Clone26.calls _ _ l0_1 t255 _ ?side1 ?side2 A2.out).mono ?_); (case side1 => repeat (first | exact (Kd.C_below HR0_1.out HB.out) | (with_reducible refine Kd.C_alloc ?_ _) | (with_reducible refine Kd.C_drewN ?_ _) | (with_reducible refine Kd.C_drew ?_))); (case side2 => exact HC0_1.out); rintro e w7 ⟨v256, rfl, ho0, hb⟩; refine ⟨_, rfl, ?_⟩; have n0_ := Aside0.mk (Kd.R_lower ho0 (below_size (eG HB.out))); have n1_ := Aside0.mk (blk_below (bG BK253.out) hb); have n2_ := Aside0.mk (blk_below (bG BK254.out) hb); have n3_ := Aside0.mk (below_step (eG HB.out) hb); clear BK253; clear BK254; clear HB; have HO257 := n0_; have BK253 := n1_; have BK254 := n2_; have HB := n3_; clear n0_ n1_ n2_ n3_; (try clear hb); (try clear hb2); (try clear hk); (try clear hi); (try clear ho0); obtain ⟨Ao8, co8, eo8⟩ := Kd.R_slice HO257.out; subst eo8; have hcz9_0 : w7.cell? ⟨gb253, 0, none⟩ = some (.int .i64 a0_0) := (blk_cell BK253.out 0).trans rfl; have hcz9_1 : w7.cell? ⟨gb253, 1, none⟩ = some (.slice A0_1 l0_1.length c0_1) := (blk_cell BK253.out 1).trans rfl; have hfz9_0 := blk_frozen BK253.out 0; have hfz9_1 := blk_frozen BK253.out 1; have hcz10_0 : w7.cell? ⟨gb254, 0, none⟩ = some (.int .i64 0) := (blk_cell BK254.out 0).trans rfl; have hcz10_1 : w7.cell? ⟨gb254, 1, none⟩ = some (.slice none 0 0) := (blk_cell BK254.out 1).trans rfl; have hfz10_0 := blk_frozen BK254.out 0; have hfz10_1 := blk_frozen BK254.out 1))
 refine bodyPost_ret (results_cell_row rfl _ _ gb254 24 #[.int .i64 a0_0, .slice Ao8 t255.length co8] (0, 0) _ rfl (by (with_reducible repeat first | apply bN | apply bD | apply bA); refine blk_put (cs := #[.int .i64 a0_0, .slice none 0 0]) ?_ 1 _ rfl; (with_reducible repeat first | apply bN | apply bD | apply bA); refine blk_put (cs := #[.int .i64 0, .slice none 0 0]) ?_ 0 _ rfl; (with_reducible repeat first | apply bN | apply bD | apply bA); refine blk_far ?_ NB254_253.out _; (with_reducible repeat first | apply bN | apply bD | apply bA); exact BK254.out) Tryz.underlying24 rfl (by kernel_rfl)) rfl ?_; exact ⟨_, by first | rfl | (simp [errW_none, errW_some] <;> rfl) | (simp [*, errW_none, errW_some] <;> rfl), by (with_reducible repeat (first | apply Kd.R_alloc | apply Kd.R_drewN | apply Kd.R_drew)); exact Kd.R_mono (Kd.R_far (p := ⟨gb254, 1, none⟩) (Kd.R_far (p := ⟨gb254, 0, none⟩) (Kd.R_far (p := ⟨gb253, 1, none⟩) (Kd.R_types (Kd.R_types HO257.out BK253.out (by decide)) BK254.out (by decide)) (fun _ hk => hk.1.2) (.slice Ao8 t255.length co8)) (fun _ hk => hk.2) (.int .i64 a0_0)) (fun _ hk => hk.2) (.slice Ao8 t255.length co8)) (fun _ hk => trivial), eG HB.out⟩
def spileref46_right.f (a0_0 : Int) (a0_1 : Int) (a0_2 : Int) : Option (Bool) := if a0_0 ≥ 1 then (if a0_0 ≤ 9 then (if a0_1 ≥ 0 then (if a0_1 ≤ 100000 then (if a0_2 ≥ 0 then (some (decide (a0_2 ≤ 1000000))) else (some false)) else (some false)) else (some false)) else (some false)) else (some false)
def spileref46_before.f (a0_0 : Int) (a0_1 : Int) (a0_2 : Int) (a1_0 : Int) (a1_1 : Int) (a1_2 : Int) : Option (Bool) := if a0_0 < a1_0 then (some true) else (if a0_0 = a1_0 then (some (decide (a0_1 < a1_1))) else (some false))
end Go.Proofs.YtholbmidciapdaaGreatDoor.Pr
namespace Go.Proofs.YtholbmidciapdaaGreatDoor.Pr
open Go.RowKit Go.Proofs.YtholbmidciapdaaGreatDoorW.PrintWords Go.Proofs.YtholbmidciapdaaGreatDoorW.PrintLast Go.Proofs.YtholbmidciapdaaGreatDoorW.PrintMore Go.Proofs.YtholbmidciapdaaGreatDoor.X
attribute [local go_sem] max2_int min2_int max_two min_two max_three min_three max_four min_four   -- for this text's walks alone
set_option linter.unusedVariables false
set_option linter.unusedSimpArgs false
mutual
def spilelaw46_TariffBack.j0 : Nat → ByteArray → Bool → Int → List (S26) → Option (Bool)
 | 0, _, _, _, _ => none
 | k + 1, x1, x26, x626000, x626001 => if x26 = true then ((spilelaw46_awake.f).bind fun t628 => (some t628)) else ((spilelaw46_cp.f x626000 x626001).bind fun bt629 => ((tariff_Print.f k bt629.1 bt629.2).bind fun bt633 => (if bt633.2 = 0 then ((tariff_Parse.f k bt633.1).bind fun bt635 => (if bt635.2.2.2 = 0 then (if bt635.2.2.1 = (-1) then ((spileref46_Same.f k bt635.1 bt635.2.1 x626000 x626001).bind fun t642 => (if t642 = true then (spilelaw46_TariffBack.j1 k x1) else (some false))) else (some false)) else (some false))) else (if bt633.1.toList = ([] : List UInt8) then (spilelaw46_TariffBack.j1 k x1) else (some false)))))
def spilelaw46_TariffBack.j1 : Nat → ByteArray → Option (Bool)
 | 0, _ => none
 | k + 1, x1 => (tariff_Parse.f k x1).bind fun bt643 => (if bt643.2.2.2 = 0 then ((tariff_Print.f k bt643.1 bt643.2.1).bind fun bt650 => (if bt650.2 = 0 then (if bt643.2.2.1 = (-1) then (some (bt650.1.toList == x1.toList)) else (some false)) else (some false))) else (if (bt643.2.1.length : Int) = 0 then (some ((decide (bt643.2.2.1 ≥ 0)) == (bt643.2.2.2 == 3))) else (some false)))
end
def spilelaw46_TariffBack.f (k : Nat) (a0_0 : Int) (l0_1 : List (S26)) (a1 : ByteArray) : Option (Bool) := (spilelaw46_awake.f).bind fun t626 => (if t626 = true then ((spileref46_Few.f a0_0 l0_1).bind fun t627 => (if t627 = true then (spilelaw46_TariffBack.j0 k a1 (decide ((a1.size : Int) > 600)) a0_0 l0_1) else (spilelaw46_TariffBack.j0 k a1 true a0_0 l0_1))) else (spilelaw46_TariffBack.j0 k a1 true a0_0 l0_1))
set_option maxHeartbeats 8000000 in
set_option maxRecDepth 100000 in
theorem spilelaw46_TariffBack.calls (k : Nat) (a0_0 : Int) (A0_1 : Option Addr) (c0_1 : Nat) (l0_1 : List (S26)) (a1 : ByteArray) (r : Bool) (w : World) (hr0_1 : Kd.C k26 w A0_1 l0_1.length l0_1) (hc0_1 : l0_1.length ≤ c0_1) (hG : GI w) (hr_ : r = true) (h : spilelaw46_TariffBack.f k a0_0 l0_1 a1 = some r) :
  Calls Tryz.prog 9 #[.agg #[.int .i64 a0_0, .slice A0_1 l0_1.length c0_1], .string a1] w fun e w' => e = .returned (.bool r) ∧ Below w.heap.size w w' := by
 have hu24 := Tryz.underlying24; have HR0_1 := Aside0.mk hr0_1; have HC0_1 := Aside0.mk hc0_1; clear hr0_1 hc0_1; have HG := Aside0.mk hG; clear hG; have HB := Aside0.mk (Below.refl w.heap.size w); have H : ((spilelaw46_awake.f).bind fun t626 => (if t626 = true then ((spileref46_Few.f a0_0 l0_1).bind fun t627 => (if t627 = true then (spilelaw46_TariffBack.j0 k a1 (decide ((a1.size : Int) > 600)) a0_0 l0_1) else (spilelaw46_TariffBack.j0 k a1 true a0_0 l0_1))) else (spilelaw46_TariffBack.j0 k a1 true a0_0 l0_1))) = some r := h; clear h; have HC3 := Aside0.mk H; clear H; go_enter Tryz.func9, Tryz.ntmps9
 go_upto_region 1 with (first | ((with_reducible refine gate_dst (N := 2) rfl ?_); (try (refine gate_guard (by rfl) ?_; dsimp only)); refine box_event ?hg (N := 2) ?hd (cs := #[.int .i64 a0_0, .slice A0_1 l0_1.length c0_1]) (t := 24) ?hr ?_; (case hd => rfl); (case hg => rfl); (case hr => first | (go_simp; done) | (go_simp; rfl)); intro gb625 hg w4 hbox hb; have n0_ := Aside0.mk (below_step (eG HB.out) hb); have n1_ := Aside0.mk (hbox); have n2_ := Aside0.mk ((by rw [hg]; exact (below_size (eG HB.out)) : w.heap.size ≤ gb625)); have n3_ := Aside0.mk ((by rw [hg]; exact (below_size (eG HB.out)) : w.heap.size ≤ gb625)); clear HB; have HB := n0_; have BK625 := n1_; have GW625 := n2_; have GE625 := n3_; have ig625_ := geI GE625; clear n0_ n1_ n2_ n3_; clear hb hbox hg))
 (try simp only [Act.put, sIA, sC0, sCS])
 go_cut [26] (fun v26 wc => ∃ (kq : Nat) (x26_2 : Bool), v26 = .bool x26_2 ∧ Aside0 (spilelaw46_TariffBack.j0 kq a1 x26_2 a0_0 l0_1 = some r) ∧ Aside0 (kq ≤ k) ∧ Aside0 (wc.heap[gb625]? = some (.cells #[.int .i64 a0_0, (.slice A0_1 l0_1.length c0_1)] 24 (0, 0))) ∧ Aside0 (Below w.heap.size w wc))
 case first =>
  have H := HC3.out; clear HC3; replace H := Option.bind_eq_some_iff.mp H; obtain ⟨t626, A50, H⟩ := H; replace H : (if t626 = true then ((spileref46_Few.f a0_0 l0_1).bind fun t627 => (if t627 = true then (spilelaw46_TariffBack.j0 k a1 (decide ((a1.size : Int) > 600)) a0_0 l0_1) else (spilelaw46_TariffBack.j0 k a1 true a0_0 l0_1))) else (spilelaw46_TariffBack.j0 k a1 true a0_0 l0_1)) = some r := H; have A5 := Aside0.mk A50; clear A50; by_cases c6 : t626 = true
  ·
   subst c6; replace H : ((spileref46_Few.f a0_0 l0_1).bind fun t627 => (if t627 = true then (spilelaw46_TariffBack.j0 k a1 (decide ((a1.size : Int) > 600)) a0_0 l0_1) else (spilelaw46_TariffBack.j0 k a1 true a0_0 l0_1))) = some r := by rw [if_pos rfl] at H; exact H
   replace H := Option.bind_eq_some_iff.mp H; obtain ⟨t627, A70, H⟩ := H; replace H : (if t627 = true then (spilelaw46_TariffBack.j0 k a1 (decide ((a1.size : Int) > 600)) a0_0 l0_1) else (spilelaw46_TariffBack.j0 k a1 true a0_0 l0_1)) = some r := H; have A7 := Aside0.mk A70; clear A70; by_cases c8 : t627 = true
   ·
    subst c8; replace H : (spilelaw46_TariffBack.j0 k a1 (decide ((a1.size : Int) > 600)) a0_0 l0_1) = some r := by rw [if_pos rfl] at H; exact H
    have H' := Aside0.mk H; clear H; go_wp2_with (first | ((with_reducible refine gate_callee (f := 11) rfl ?_); refine goesL_ (some 15) rfl rfl Tryz.func11 (by kernel_rfl) rfl #[] rfl (by (try simp only [List.map_toArray, List.map_cons, List.map_nil]); first | done | rfl | (simp only [List.length_drop, List.length_take]; rfl)) ?_; (with_reducible refine (spilelaw46_awake.calls  true _ ?side1 A5.out).mono ?_); (case side1 => exact GI.below HG.out (eG HB.out)); rintro e w9 ⟨rfl, hb⟩; refine ⟨_, rfl, ?_⟩; have n0_ := Aside0.mk (blk_below (bG BK625.out) hb); have n1_ := Aside0.mk (below_step (eG HB.out) hb); clear BK625; clear HB; have BK625 := n0_; have HB := n1_; clear n0_ n1_; (try clear hb); (try clear hb2); (try clear hk); (try clear hi); have hcz10_0 : w9.cell? ⟨gb625, 0, none⟩ = some (.int .i64 a0_0) := (blk_cell BK625.out 0).trans rfl; have hcz10_1 : w9.cell? ⟨gb625, 1, none⟩ = some (.slice A0_1 l0_1.length c0_1) := (blk_cell BK625.out 1).trans rfl; have hfz10_0 := blk_frozen BK625.out 0; have hfz10_1 := blk_frozen BK625.out 1) | (go_at_call 12; (with_reducible refine (spileref46_Few.calls a0_0 _ _ l0_1 true _ ?side1 ?side2 A7.out).mono ?_); (case side1 => repeat (first | exact (Kd.C_below HR0_1.out HB.out) | (with_reducible refine Kd.C_alloc ?_ _) | (with_reducible refine Kd.C_drewN ?_ _) | (with_reducible refine Kd.C_drew ?_))); (case side2 => exact HC0_1.out); rintro e w11 ⟨rfl, hb⟩; have n0_ := Aside0.mk (blk_below (bG BK625.out) hb); have n1_ := Aside0.mk (below_step (eG HB.out) hb); clear BK625; clear HB; have BK625 := n0_; have HB := n1_; clear n0_ n1_; (try clear hb); (try clear hb2); (try clear hk); (try clear hi)))
    go_meet
    case rel => exact ⟨_, (decide ((a1.size : Int) > 600)), (by first | rfl | (simp; done) | (simp [*]; done)), H', ⟨by first | omega | exact Nat.le_refl _⟩, ⟨by (with_reducible repeat first | apply bN | apply bD | apply bA); exact BK625.out⟩, ⟨eG HB.out⟩⟩
   ·
    replace c8 := Bool.eq_false_iff.mpr c8; subst c8; replace H : (spilelaw46_TariffBack.j0 k a1 true a0_0 l0_1) = some r := by rw [if_neg (show ¬ (false = true) by decide)] at H; exact H
    have H' := Aside0.mk H; clear H; go_wp2_with (first | ((with_reducible refine gate_callee (f := 11) rfl ?_); refine goesL_ (some 15) rfl rfl Tryz.func11 (by kernel_rfl) rfl #[] rfl (by (try simp only [List.map_toArray, List.map_cons, List.map_nil]); first | done | rfl | (simp only [List.length_drop, List.length_take]; rfl)) ?_; (with_reducible refine (spilelaw46_awake.calls  true _ ?side1 A5.out).mono ?_); (case side1 => exact GI.below HG.out (eG HB.out)); rintro e w12 ⟨rfl, hb⟩; refine ⟨_, rfl, ?_⟩; have n0_ := Aside0.mk (blk_below (bG BK625.out) hb); have n1_ := Aside0.mk (below_step (eG HB.out) hb); clear BK625; clear HB; have BK625 := n0_; have HB := n1_; clear n0_ n1_; (try clear hb); (try clear hb2); (try clear hk); (try clear hi); have hcz13_0 : w12.cell? ⟨gb625, 0, none⟩ = some (.int .i64 a0_0) := (blk_cell BK625.out 0).trans rfl; have hcz13_1 : w12.cell? ⟨gb625, 1, none⟩ = some (.slice A0_1 l0_1.length c0_1) := (blk_cell BK625.out 1).trans rfl; have hfz13_0 := blk_frozen BK625.out 0; have hfz13_1 := blk_frozen BK625.out 1) | (go_at_call 12; (with_reducible refine (spileref46_Few.calls a0_0 _ _ l0_1 false _ ?side1 ?side2 A7.out).mono ?_); (case side1 => repeat (first | exact (Kd.C_below HR0_1.out HB.out) | (with_reducible refine Kd.C_alloc ?_ _) | (with_reducible refine Kd.C_drewN ?_ _) | (with_reducible refine Kd.C_drew ?_))); (case side2 => exact HC0_1.out); rintro e w14 ⟨rfl, hb⟩; have n0_ := Aside0.mk (blk_below (bG BK625.out) hb); have n1_ := Aside0.mk (below_step (eG HB.out) hb); clear BK625; clear HB; have BK625 := n0_; have HB := n1_; clear n0_ n1_; (try clear hb); (try clear hb2); (try clear hk); (try clear hi)))
    go_meet
    case rel => exact ⟨_, (true), (by first | rfl | (simp; done) | (simp [*]; done)), H', ⟨by first | omega | exact Nat.le_refl _⟩, ⟨by (with_reducible repeat first | apply bN | apply bD | apply bA); exact BK625.out⟩, ⟨eG HB.out⟩⟩
  ·
   replace c6 := Bool.eq_false_iff.mpr c6; subst c6; replace H : (spilelaw46_TariffBack.j0 k a1 true a0_0 l0_1) = some r := by rw [if_neg (show ¬ (false = true) by decide)] at H; exact H
   have H' := Aside0.mk H; clear H; go_wp2_with (first | ((with_reducible refine gate_callee (f := 11) rfl ?_); refine goesL_ (some 15) rfl rfl Tryz.func11 (by kernel_rfl) rfl #[] rfl (by (try simp only [List.map_toArray, List.map_cons, List.map_nil]); first | done | rfl | (simp only [List.length_drop, List.length_take]; rfl)) ?_; (with_reducible refine (spilelaw46_awake.calls  false _ ?side1 A5.out).mono ?_); (case side1 => exact GI.below HG.out (eG HB.out)); rintro e w15 ⟨rfl, hb⟩; refine ⟨_, rfl, ?_⟩; have n0_ := Aside0.mk (blk_below (bG BK625.out) hb); have n1_ := Aside0.mk (below_step (eG HB.out) hb); clear BK625; clear HB; have BK625 := n0_; have HB := n1_; clear n0_ n1_; (try clear hb); (try clear hb2); (try clear hk); (try clear hi)))
   go_meet
   case rel => exact ⟨_, (true), (by first | rfl | (simp; done) | (simp [*]; done)), H', ⟨by first | omega | exact Nat.le_refl _⟩, ⟨by (with_reducible repeat first | apply bN | apply bD | apply bA); exact BK625.out⟩, ⟨eG HB.out⟩⟩
 case rest =>
  clear HC3; repeat first | clear c1 | clear p2 | clear c6 | clear c8 | clear c9 | clear c11 | clear hcz10_0 | clear hcz10_1 | clear hcz13_0 | clear hcz13_1 | clear hfz10_0 | clear hfz10_1 | clear hfz13_0 | clear hfz13_1
  obtain ⟨kq, x26_2, rfl, HA, HJ2, BK625, HB⟩ := hcut
  cases kq with
  | zero => exact absurd HA.out (by simp [spilelaw46_TariffBack.j0])
  | succ kj2 =>
   have H := HA.out; clear HA; simp only [spilelaw46_TariffBack.j0] at H; by_cases c16 : x26_2 = true
   ·
    subst c16; replace H : ((spilelaw46_awake.f).bind fun t628 => (some t628)) = some r := by rw [if_pos rfl] at H; exact H
    replace H := Option.bind_eq_some_iff.mp H; obtain ⟨t628, A170, H⟩ := H; replace H : (some t628) = some r := H; have A17 := Aside0.mk A170; clear A170; obtain rfl := Option.some.inj H; go_wp2_with (first | ((with_reducible refine gate_callee (f := 11) rfl ?_); refine goesL_ (some 27) rfl rfl Tryz.func11 (by kernel_rfl) rfl #[] rfl (by (try simp only [List.map_toArray, List.map_cons, List.map_nil]); first | done | rfl | (simp only [List.length_drop, List.length_take]; rfl)) ?_; (with_reducible refine (spilelaw46_awake.calls  t628 _ ?side1 A17.out).mono ?_); (case side1 => exact GI.below HG.out (eG HB.out)); rintro e w18 ⟨rfl, hb⟩; refine ⟨_, rfl, ?_⟩; have n0_ := Aside0.mk (blk_below (bG BK625.out) hb); have n1_ := Aside0.mk (below_step (eG HB.out) hb); clear BK625; clear HB; have BK625 := n0_; have HB := n1_; clear n0_ n1_; (try clear hb); (try clear hb2); (try clear hk); (try clear hi)))
    go_ret
    exact ⟨by first | rfl | (simp [errW_none, errW_some] <;> rfl) | (simp [*, errW_none, errW_some] <;> rfl), eG HB.out⟩
   ·
    replace c16 := Bool.eq_false_iff.mpr c16; subst c16; replace H : ((spilelaw46_cp.f a0_0 l0_1).bind fun bt629 => ((tariff_Print.f kj2 bt629.1 bt629.2).bind fun bt633 => (if bt633.2 = 0 then ((tariff_Parse.f kj2 bt633.1).bind fun bt635 => (if bt635.2.2.2 = 0 then (if bt635.2.2.1 = (-1) then ((spileref46_Same.f kj2 bt635.1 bt635.2.1 a0_0 l0_1).bind fun t642 => (if t642 = true then (spilelaw46_TariffBack.j1 kj2 a1) else (some false))) else (some false)) else (some false))) else (if bt633.1.toList = ([] : List UInt8) then (spilelaw46_TariffBack.j1 kj2 a1) else (some false))))) = some r := by rw [if_neg (show ¬ (false = true) by decide)] at H; exact H
    replace H := Option.bind_eq_some_iff.mp H; obtain ⟨⟨t629, t630⟩, A190, H⟩ := H; replace H : ((tariff_Print.f kj2 t629 t630).bind fun bt633 => (if bt633.2 = 0 then ((tariff_Parse.f kj2 bt633.1).bind fun bt635 => (if bt635.2.2.2 = 0 then (if bt635.2.2.1 = (-1) then ((spileref46_Same.f kj2 bt635.1 bt635.2.1 a0_0 l0_1).bind fun t642 => (if t642 = true then (spilelaw46_TariffBack.j1 kj2 a1) else (some false))) else (some false)) else (some false))) else (if bt633.1.toList = ([] : List UInt8) then (spilelaw46_TariffBack.j1 kj2 a1) else (some false)))) = some r := H; have A19 := Aside0.mk A190; clear A190; replace H := Option.bind_eq_some_iff.mp H; obtain ⟨⟨t633, t634⟩, A200, H⟩ := H; replace H : (if t634 = 0 then ((tariff_Parse.f kj2 t633).bind fun bt635 => (if bt635.2.2.2 = 0 then (if bt635.2.2.1 = (-1) then ((spileref46_Same.f kj2 bt635.1 bt635.2.1 a0_0 l0_1).bind fun t642 => (if t642 = true then (spilelaw46_TariffBack.j1 kj2 a1) else (some false))) else (some false)) else (some false))) else (if t633.toList = ([] : List UInt8) then (spilelaw46_TariffBack.j1 kj2 a1) else (some false))) = some r := H; have A20 := Aside0.mk A200; clear A200; have HC21 := Aside0.mk H; clear H; have hcz22_0 : wc.cell? ⟨gb625, 0, none⟩ = some (.int .i64 a0_0) := (blk_cell BK625.out 0).trans rfl; have hcz22_1 : wc.cell? ⟨gb625, 1, none⟩ = some (.slice A0_1 l0_1.length c0_1) := (blk_cell BK625.out 1).trans rfl; have hfz22_0 := blk_frozen BK625.out 0; have hfz22_1 := blk_frozen BK625.out 1; go_upto_if 35 with (first | ((with_reducible refine gate_callee (f := 14) rfl ?_); refine goesL_ (some 30) rfl rfl Tryz.func14 (by kernel_rfl) rfl #[.agg #[.int .i64 a0_0, .slice A0_1 l0_1.length c0_1]] rfl (by (try simp only [List.map_toArray, List.map_cons, List.map_nil]); first | done | rfl | (simp only [List.length_drop, List.length_take]; rfl)) ?_; (with_reducible refine (spilelaw46_cp.calls a0_0 _ _ l0_1 t629 t630 _ ?side1 ?side2 A19.out).mono ?_); (case side1 => repeat (first | exact (Kd.C_below HR0_1.out HB.out) | (with_reducible refine Kd.C_alloc ?_ _) | (with_reducible refine Kd.C_drewN ?_ _) | (with_reducible refine Kd.C_drew ?_))); (case side2 => exact HC0_1.out); rintro e w23 ⟨v631, rfl, ho0, hb⟩; refine ⟨_, rfl, ?_⟩; have n0_ := Aside0.mk (Kd.R_lower ho0 (below_size (eG HB.out))); have n1_ := Aside0.mk (blk_below (bG BK625.out) hb); have n2_ := Aside0.mk (below_step (eG HB.out) hb); clear BK625; clear HB; have HO632 := n0_; have BK625 := n1_; have HB := n2_; clear n0_ n1_ n2_; (try clear hb); (try clear hb2); (try clear hk); (try clear hi); (try clear ho0); obtain ⟨Ao24, co24, eo24⟩ := Kd.R_slice HO632.out; subst eo24) | ((with_reducible refine gate_callee (f := 28) rfl ?_); refine goesL_ (some 31) rfl rfl Tryz.func28 (by kernel_rfl) rfl #[.agg #[.int .i64 t629, .slice Ao24 t630.length co24]] rfl (by (try simp only [List.map_toArray, List.map_cons, List.map_nil]); first | done | rfl | (simp only [List.length_drop, List.length_take]; rfl)) ?_; (with_reducible refine (tariff_Print.calls kj2 t629 _ _ t630 t633 t634 _ ?side1 ?side2 ?side3 A20.out).mono ?_); (case side1 => repeat (first | exact (Kd.R_reads' HO632.out).2.2 | (with_reducible refine Kd.C_alloc ?_ _) | (with_reducible refine Kd.C_drewN ?_ _) | (with_reducible refine Kd.C_drew ?_))); (case side2 => exact (Kd.R_reads' HO632.out).2.1); (case side3 => exact GI.below HG.out (eG HB.out)); rintro e w25 ⟨rfl, hb⟩; refine ⟨_, rfl, ?_⟩; have n0_ := Aside0.mk (Kd.R_below (rG HO632.out) hb); have n1_ := Aside0.mk (blk_below (bG BK625.out) hb); have n2_ := Aside0.mk (below_step (eG HB.out) hb); clear HO632; clear BK625; clear HB; have HO632 := n0_; have BK625 := n1_; have HB := n2_; clear n0_ n1_ n2_; (try clear hb); (try clear hb2); (try clear hk); (try clear hi)))
    (try simp only [Act.put, sIA, sC0, sCS])
    go_cut [] (fun wc => ∃ (kq : Nat), Aside0 (spilelaw46_TariffBack.j1 kq a1 = some r) ∧ Aside0 (kq ≤ kj2) ∧ Aside0 (wc.heap[gb625]? = some (.cells #[.int .i64 a0_0, (.slice A0_1 l0_1.length c0_1)] 24 (0, 0))) ∧ Aside0 (Below w.heap.size w wc))
    case first =>
     have H := HC21.out; clear HC21; by_cases c26 : t634 = 0
     ·
      rw [if_pos c26] at H; have c26b0 : (t634 == 0) = true := beq_iff_eq.mpr c26; have c26b1 : (t634 != 0) = false := bne_eq_false_iff_eq.mpr c26; clear c26; (first | rw [c26b0] | (simp only [i64_w, i32_w]; rw [c26b0]) | skip)
      replace H := Option.bind_eq_some_iff.mp H; obtain ⟨⟨t635, t636, t639, t640⟩, A270, H⟩ := H; replace H : (if t640 = 0 then (if t639 = (-1) then ((spileref46_Same.f kj2 t635 t636 a0_0 l0_1).bind fun t642 => (if t642 = true then (spilelaw46_TariffBack.j1 kj2 a1) else (some false))) else (some false)) else (some false)) = some r := H; have A27 := Aside0.mk A270; clear A270; by_cases c28 : t640 = 0
      ·
       rw [if_pos c28] at H; have c28b0 : (t640 == 0) = true := beq_iff_eq.mpr c28; have c28b1 : (t640 != 0) = false := bne_eq_false_iff_eq.mpr c28; clear c28; by_cases c29 : t639 = (-1)
       ·
        rw [if_pos c29] at H; have c29b0 : (t639 == (-1)) = true := beq_iff_eq.mpr c29; have c29b1 : (t639 != (-1)) = false := bne_eq_false_iff_eq.mpr c29; clear c29; replace H := Option.bind_eq_some_iff.mp H; obtain ⟨t642, A300, H⟩ := H; replace H : (if t642 = true then (spilelaw46_TariffBack.j1 kj2 a1) else (some false)) = some r := H; have A30 := Aside0.mk A300; clear A300; by_cases c31 : t642 = true
        ·
         subst c31; replace H : (spilelaw46_TariffBack.j1 kj2 a1) = some r := by rw [if_pos rfl] at H; exact H
         have H' := Aside0.mk H; clear H; go_wp2_with (first | ((with_reducible refine gate_callee (f := 30) rfl ?_); refine goesL_ (some 38) rfl rfl Tryz.func30 (by kernel_rfl) rfl #[.string t633] rfl (by (try simp only [List.map_toArray, List.map_cons, List.map_nil]); first | done | rfl | (simp only [List.length_drop, List.length_take]; rfl)) ?_; (with_reducible refine (tariff_Parse.calls kj2 t633 t635 t636 t639 t640 _ ?side1 A27.out).mono ?_); (case side1 => exact GI.below HG.out (eG HB.out)); rintro e w32 ⟨v637, rfl, ho0, hb⟩; refine ⟨_, rfl, ?_⟩; have n0_ := Aside0.mk (Kd.R_elder' (rG HO632.out) (Kd.R_base ho0) hb); have n1_ := Aside0.mk (Kd.R_lower (Kd.R_new' ho0 (Kd.R_lt (rG HO632.out))) (below_size (eG HB.out))); have n2_ := Aside0.mk (blk_below (bG BK625.out) hb); have n3_ := Aside0.mk (below_step (eG HB.out) hb); clear HO632; clear BK625; clear HB; have HO632 := n0_; have HO638 := n1_; have BK625 := n2_; have HB := n3_; clear n0_ n1_ n2_ n3_; (try clear hb); (try clear hb2); (try clear hk); (try clear hi); (try clear ho0)) | ((with_reducible refine gate_dst (N := 7) rfl ?_); (try (refine gate_guard (by rfl) ?_; dsimp only)); refine box_event ?hg (N := 7) ?hd (cs := #[.int .i64 0, .slice none 0 0]) (t := 24) ?hr ?_; (case hd => rfl); (case hg => rfl); (case hr => first | (go_simp; done) | (go_simp; rfl)); intro gb641 hg w33 hbox hb; have n0_ := Aside0.mk (Kd.R_below (rG HO632.out) hb); have n1_ := Aside0.mk (Kd.R_below (rG HO638.out) hb); have n2_ := Aside0.mk (blk_below (bG BK625.out) hb); have n3_ := Aside0.mk (below_step (eG HB.out) hb); have n4_ := Aside0.mk (hbox); have n5_ := Aside0.mk ((by rw [hg]; exact (below_size (eG HB.out)) : w.heap.size ≤ gb641)); have n6_ := Aside0.mk ((by rw [hg]; exact (below_size (eG HB.out)) : w.heap.size ≤ gb641)); have n7_ := Aside0.mk ((by rw [hg]; exact Nat.ne_of_lt (blk_lt (bG BK625.out)) : gb625 ≠ gb641)); have n8_ := Aside0.mk ((by rw [hg]; exact Nat.ne_of_gt (blk_lt (bG BK625.out)) : gb641 ≠ gb625)); clear HO632; clear HO638; clear BK625; clear HB; have HO632 := n0_; have HO638 := n1_; have BK625 := n2_; have HB := n3_; have BK641 := n4_; have GW641 := n5_; have GE641 := n6_; have ig641_ := geI GE641; have NB625_641 := n7_; have NB641_625 := n8_; clear n0_ n1_ n2_ n3_ n4_ n5_ n6_ n7_ n8_; clear hb hbox hg; have hnb34 := NB641_625.out; have hnc34 := NB625_641.out; have hcz35_0 : w33.cell? ⟨gb641, 0, none⟩ = some (.int .i64 0) := (blk_cell BK641.out 0).trans rfl; have hcz35_1 : w33.cell? ⟨gb641, 1, none⟩ = some (.slice none 0 0) := (blk_cell BK641.out 1).trans rfl; have hfz35_0 := blk_frozen BK641.out 0; have hfz35_1 := blk_frozen BK641.out 1; obtain ⟨Ao36, co36, eo36⟩ := Kd.R_slice HO638.out; subst eo36; have hcz37_0 : w33.cell? ⟨gb625, 0, none⟩ = some (.int .i64 a0_0) := (blk_cell BK625.out 0).trans rfl; have hcz37_1 : w33.cell? ⟨gb625, 1, none⟩ = some (.slice A0_1 l0_1.length c0_1) := (blk_cell BK625.out 1).trans rfl; have hfz37_0 := blk_frozen BK625.out 0; have hfz37_1 := blk_frozen BK625.out 1) | (go_at_call 18; (with_reducible refine (spileref46_Same.calls kj2 t635 _ _ t636 a0_0 _ _ l0_1 true _ ?side1 ?side2 ?side3 ?side4 A30.out).mono ?_); (case side1 => refine (Kd.R_reads' (e := 26) (base := w.heap.size) (ok := fun k_ => (True ∧ some k_ ≠ (.slice Ao24 t630.length co24 : Value).ownBlock)) (n := t636.length) (c := co36) ?_).2.2; exact (by (with_reducible repeat (first | apply Kd.R_alloc | apply Kd.R_drewN | apply Kd.R_drew)); exact (Kd.R_mono (Kd.R_far (p := ⟨gb641, 1, none⟩) (Kd.R_far (p := ⟨gb641, 0, none⟩) (Kd.R_types HO638.out BK641.out (by decide)) (fun _ hk => hk.2) (.int .i64 t635)) (fun _ hk => hk.2) (.slice Ao36 t636.length co36)) (fun _ h_ => h_.1)))); (case side2 => exact (Kd.R_reads' HO638.out).2.1); (case side3 => exact Kd.C_below HR0_1.out (eG HB.out)); (case side4 => exact HC0_1.out); rintro e w38 ⟨rfl, hb⟩; have n0_ := Aside0.mk (Kd.R_below (by (with_reducible repeat (first | apply Kd.R_alloc | apply Kd.R_drewN | apply Kd.R_drew)); exact (Kd.R_mono (Kd.R_far (p := ⟨gb641, 1, none⟩) (Kd.R_far (p := ⟨gb641, 0, none⟩) (Kd.R_types HO632.out BK641.out (by decide)) (fun _ hk => hk.2) (.int .i64 t635)) (fun _ hk => hk.2) (.slice Ao36 t636.length co36)) (fun _ h_ => h_.1))) hb); have n1_ := Aside0.mk (Kd.R_below (by (with_reducible repeat (first | apply Kd.R_alloc | apply Kd.R_drewN | apply Kd.R_drew)); exact (Kd.R_mono (Kd.R_far (p := ⟨gb641, 1, none⟩) (Kd.R_far (p := ⟨gb641, 0, none⟩) (Kd.R_types HO638.out BK641.out (by decide)) (fun _ hk => hk.2) (.int .i64 t635)) (fun _ hk => hk.2) (.slice Ao36 t636.length co36)) (fun _ h_ => h_.1))) hb); have n2_ := Aside0.mk (blk_below (g := gb625) (o := .cells #[.int .i64 a0_0, .slice A0_1 l0_1.length c0_1] 24 (0, 0)) (by (with_reducible repeat first | apply bN | apply bD | apply bA); refine blk_far ?_ NB625_641.out _; (with_reducible repeat first | apply bN | apply bD | apply bA); refine blk_far ?_ NB625_641.out _; (with_reducible repeat first | apply bN | apply bD | apply bA); exact BK625.out) hb); have n3_ := Aside0.mk (blk_below (g := gb641) (o := .cells #[.int .i64 t635, .slice Ao36 t636.length co36] 24 (0, 0)) (by (with_reducible repeat first | apply bN | apply bD | apply bA); refine blk_put (cs := #[.int .i64 t635, .slice none 0 0]) ?_ 1 _ rfl; (with_reducible repeat first | apply bN | apply bD | apply bA); refine blk_put (cs := #[.int .i64 0, .slice none 0 0]) ?_ 0 _ rfl; (with_reducible repeat first | apply bN | apply bD | apply bA); exact BK641.out) hb); have n4_ := Aside0.mk (below_step (eG HB.out) hb); clear HO632; clear HO638; clear BK625; clear BK641; clear HB; have HO632 := n0_; have HO638 := n1_; have BK625 := n2_; have BK641 := n3_; have HB := n4_; clear n0_ n1_ n2_ n3_ n4_; (try clear hb); (try clear hb2); (try clear hk); (try clear hi)))
         go_meet
         case rel => exact ⟨_, H', ⟨by have := HJ2.out; first | omega | exact Nat.le_refl _⟩, ⟨by (with_reducible repeat first | apply bN | apply bD | apply bA); exact BK625.out⟩, ⟨eG HB.out⟩⟩
        ·
         replace c31 := Bool.eq_false_iff.mpr c31; subst c31; replace H : (some false) = some r := by rw [if_neg (show ¬ (false = true) by decide)] at H; exact H
         subst hr_; exact absurd H (by simp)
       · rw [if_neg c29] at H; have c29b0 : (t639 == (-1)) = false := beq_eq_false_iff_ne.mpr c29; have c29b1 : (t639 != (-1)) = true := bne_iff_ne.mpr c29; subst hr_; exact absurd H (by simp)
      · rw [if_neg c28] at H; have c28b0 : (t640 == 0) = false := beq_eq_false_iff_ne.mpr c28; have c28b1 : (t640 != 0) = true := bne_iff_ne.mpr c28; subst hr_; exact absurd H (by simp)
     ·
      rw [if_neg c26] at H; have c26b0 : (t634 == 0) = false := beq_eq_false_iff_ne.mpr c26; have c26b1 : (t634 != 0) = true := bne_iff_ne.mpr c26; (first | rw [c26b0] | (simp only [i64_w, i32_w]; rw [c26b0]) | skip)
      by_cases c39 : t633.toList = ([] : List UInt8)
      ·
       rw [if_pos c39] at H; have c39b0 : (t633.toList == ([] : List UInt8)) = true := beq_iff_eq.mpr c39; have c39b1 : (t633.toList != ([] : List UInt8)) = false := bne_eq_false_iff_eq.mpr c39; clear c39; have H' := Aside0.mk H; clear H; go_wp2; go_meet
       case rel => exact ⟨_, H', ⟨by have := HJ2.out; first | omega | exact Nat.le_refl _⟩, ⟨by (with_reducible repeat first | apply bN | apply bD | apply bA); exact BK625.out⟩, ⟨eG HB.out⟩⟩
      · rw [if_neg c39] at H; have c39b0 : (t633.toList == ([] : List UInt8)) = false := beq_eq_false_iff_ne.mpr c39; have c39b1 : (t633.toList != ([] : List UInt8)) = true := bne_iff_ne.mpr c39; subst hr_; exact absurd H (by simp)
    case rest =>
     clear HC21; repeat first | clear c1 | clear c2 | clear p2 | clear c3 | clear c6 | clear c8 | clear c9 | clear c11 | clear c14 | clear c16 | clear c26 | clear c26b0 | clear c26b1 | clear c28 | clear c28b0 | clear c28b1 | clear c29 | clear c29b0 | clear c29b1 | clear c30 | clear c31 | clear c34 | clear c39 | clear c39b0 | clear c39b1 | clear hcz10_0 | clear hcz10_1 | clear hcz13_0 | clear hcz13_1 | clear hcz22_0 | clear hcz22_1 | clear hcz35_0 | clear hcz35_1 | clear hcz37_0 | clear hcz37_1 | clear hfz10_0 | clear hfz10_1 | clear hfz13_0 | clear hfz13_1 | clear hfz22_0 | clear hfz22_1 | clear hfz35_0 | clear hfz35_1 | clear hfz37_0 | clear hfz37_1 | clear p2
     obtain ⟨kq, HA, HJ20, BK625, HB⟩ := hcut
     cases kq with
     | zero => exact absurd HA.out (by simp [spilelaw46_TariffBack.j1])
     | succ kj20 =>
      have H := HA.out; clear HA; simp only [spilelaw46_TariffBack.j1] at H; replace H := Option.bind_eq_some_iff.mp H; obtain ⟨⟨t643, t644, t647, t648⟩, A400, H⟩ := H; replace H : (if t648 = 0 then ((tariff_Print.f kj20 t643 t644).bind fun bt650 => (if bt650.2 = 0 then (if t647 = (-1) then (some (bt650.1.toList == a1.toList)) else (some false)) else (some false))) else (if (t644.length : Int) = 0 then (some ((decide (t647 ≥ 0)) == (t648 == 3))) else (some false))) = some r := H; have A40 := Aside0.mk A400; clear A400; by_cases c41 : t648 = 0
      ·
       rw [if_pos c41] at H; have c41b0 : (t648 == 0) = true := beq_iff_eq.mpr c41; have c41b1 : (t648 != 0) = false := bne_eq_false_iff_eq.mpr c41; clear c41; replace H := Option.bind_eq_some_iff.mp H; obtain ⟨⟨t650, t651⟩, A420, H⟩ := H; replace H : (if t651 = 0 then (if t647 = (-1) then (some (t650.toList == a1.toList)) else (some false)) else (some false)) = some r := H; have A42 := Aside0.mk A420; clear A420; by_cases c43 : t651 = 0
       ·
        rw [if_pos c43] at H; have c43b0 : (t651 == 0) = true := beq_iff_eq.mpr c43; have c43b1 : (t651 != 0) = false := bne_eq_false_iff_eq.mpr c43; clear c43; by_cases c44 : t647 = (-1)
        ·
         rw [if_pos c44] at H; have c44b0 : (t647 == (-1)) = true := beq_iff_eq.mpr c44; have c44b1 : (t647 != (-1)) = false := bne_eq_false_iff_eq.mpr c44; clear c44; obtain rfl := Option.some.inj H; go_wp2_with (first | ((with_reducible refine gate_callee (f := 30) rfl ?_); refine goesL_ (some 58) rfl rfl Tryz.func30 (by kernel_rfl) rfl #[.string a1] rfl (by (try simp only [List.map_toArray, List.map_cons, List.map_nil]); first | done | rfl | (simp only [List.length_drop, List.length_take]; rfl)) ?_; (with_reducible refine (tariff_Parse.calls kj20 a1 t643 t644 t647 t648 _ ?side1 A40.out).mono ?_); (case side1 => exact GI.below HG.out (eG HB.out)); rintro e w45 ⟨v645, rfl, ho0, hb⟩; refine ⟨_, rfl, ?_⟩; have n0_ := Aside0.mk (Kd.R_lower ho0 (below_size (eG HB.out))); have n1_ := Aside0.mk (blk_below (bG BK625.out) hb); have n2_ := Aside0.mk (below_step (eG HB.out) hb); clear BK625; clear HB; have HO646 := n0_; have BK625 := n1_; have HB := n2_; clear n0_ n1_ n2_; (try clear hb); (try clear hb2); (try clear hk); (try clear hi); (try clear ho0)) | ((with_reducible refine gate_dst (N := 10) rfl ?_); (try (refine gate_guard (by rfl) ?_; dsimp only)); refine box_event ?hg (N := 10) ?hd (cs := #[.int .i64 0, .slice none 0 0]) (t := 24) ?hr ?_; (case hd => rfl); (case hg => rfl); (case hr => first | (go_simp; done) | (go_simp; rfl)); intro gb649 hg w46 hbox hb; have n0_ := Aside0.mk (Kd.R_below (rG HO646.out) hb); have n1_ := Aside0.mk (blk_below (bG BK625.out) hb); have n2_ := Aside0.mk (below_step (eG HB.out) hb); have n3_ := Aside0.mk (hbox); have n4_ := Aside0.mk ((by rw [hg]; exact (below_size (eG HB.out)) : w.heap.size ≤ gb649)); have n5_ := Aside0.mk ((by rw [hg]; exact (below_size (eG HB.out)) : w.heap.size ≤ gb649)); have n6_ := Aside0.mk ((by rw [hg]; exact Nat.ne_of_lt (blk_lt (bG BK625.out)) : gb625 ≠ gb649)); have n7_ := Aside0.mk ((by rw [hg]; exact Nat.ne_of_gt (blk_lt (bG BK625.out)) : gb649 ≠ gb625)); clear HO646; clear BK625; clear HB; have HO646 := n0_; have BK625 := n1_; have HB := n2_; have BK649 := n3_; have GW649 := n4_; have GE649 := n5_; have ig649_ := geI GE649; have NB625_649 := n6_; have NB649_625 := n7_; clear n0_ n1_ n2_ n3_ n4_ n5_ n6_ n7_; clear hb hbox hg; have hnb47 := NB649_625.out; have hnc47 := NB625_649.out; have hcz48_0 : w46.cell? ⟨gb649, 0, none⟩ = some (.int .i64 0) := (blk_cell BK649.out 0).trans rfl; have hcz48_1 : w46.cell? ⟨gb649, 1, none⟩ = some (.slice none 0 0) := (blk_cell BK649.out 1).trans rfl; have hfz48_0 := blk_frozen BK649.out 0; have hfz48_1 := blk_frozen BK649.out 1; obtain ⟨Ao49, co49, eo49⟩ := Kd.R_slice HO646.out; subst eo49) | ((with_reducible refine gate_callee (f := 28) rfl ?_); refine goesL_ (some 77) rfl rfl Tryz.func28 (by kernel_rfl) rfl #[.agg #[.int .i64 t643, .slice Ao49 t644.length co49]] rfl (by (try simp only [List.map_toArray, List.map_cons, List.map_nil]); first | done | rfl | (simp only [List.length_drop, List.length_take]; rfl)) ?_; (with_reducible refine (tariff_Print.calls kj20 t643 _ _ t644 t650 t651 _ ?side1 ?side2 ?side3 A42.out).mono ?_); (case side1 => refine (Kd.R_reads' (e := 26) (base := w.heap.size) (ok := fun k_ => True) (n := t644.length) (c := co49) ?_).2.2; exact (by (with_reducible repeat (first | apply Kd.R_alloc | apply Kd.R_drewN | apply Kd.R_drew)); exact (Kd.R_mono (Kd.R_far (p := ⟨gb649, 1, none⟩) (Kd.R_far (p := ⟨gb649, 0, none⟩) (Kd.R_types HO646.out BK649.out (by decide)) (fun _ hk => hk.2) (.int .i64 t643)) (fun _ hk => hk.2) (.slice Ao49 t644.length co49)) (fun _ h_ => h_.1)))); (case side2 => exact (Kd.R_reads' HO646.out).2.1); (case side3 => exact GI.below HG.out (eG HB.out)); rintro e w50 ⟨rfl, hb⟩; refine ⟨_, rfl, ?_⟩; have n0_ := Aside0.mk (Kd.R_below (by (with_reducible repeat (first | apply Kd.R_alloc | apply Kd.R_drewN | apply Kd.R_drew)); exact (Kd.R_mono (Kd.R_far (p := ⟨gb649, 1, none⟩) (Kd.R_far (p := ⟨gb649, 0, none⟩) (Kd.R_types HO646.out BK649.out (by decide)) (fun _ hk => hk.2) (.int .i64 t643)) (fun _ hk => hk.2) (.slice Ao49 t644.length co49)) (fun _ h_ => h_.1))) hb); have n1_ := Aside0.mk (blk_below (g := gb625) (o := .cells #[.int .i64 a0_0, .slice A0_1 l0_1.length c0_1] 24 (0, 0)) (by (with_reducible repeat first | apply bN | apply bD | apply bA); refine blk_far ?_ NB625_649.out _; (with_reducible repeat first | apply bN | apply bD | apply bA); refine blk_far ?_ NB625_649.out _; (with_reducible repeat first | apply bN | apply bD | apply bA); exact BK625.out) hb); have n2_ := Aside0.mk (blk_below (g := gb649) (o := .cells #[.int .i64 t643, .slice Ao49 t644.length co49] 24 (0, 0)) (by (with_reducible repeat first | apply bN | apply bD | apply bA); refine blk_put (cs := #[.int .i64 t643, .slice none 0 0]) ?_ 1 _ rfl; (with_reducible repeat first | apply bN | apply bD | apply bA); refine blk_put (cs := #[.int .i64 0, .slice none 0 0]) ?_ 0 _ rfl; (with_reducible repeat first | apply bN | apply bD | apply bA); exact BK649.out) hb); have n3_ := Aside0.mk (below_step (eG HB.out) hb); clear HO646; clear BK625; clear BK649; clear HB; have HO646 := n0_; have BK625 := n1_; have BK649 := n2_; have HB := n3_; clear n0_ n1_ n2_ n3_; (try clear hb); (try clear hb2); (try clear hk); (try clear hi)))
         go_ret
         exact ⟨by first | rfl | (simp [errW_none, errW_some] <;> rfl) | (simp [*, errW_none, errW_some] <;> rfl), eG HB.out⟩
        · rw [if_neg c44] at H; have c44b0 : (t647 == (-1)) = false := beq_eq_false_iff_ne.mpr c44; have c44b1 : (t647 != (-1)) = true := bne_iff_ne.mpr c44; subst hr_; exact absurd H (by simp)
       · rw [if_neg c43] at H; have c43b0 : (t651 == 0) = false := beq_eq_false_iff_ne.mpr c43; have c43b1 : (t651 != 0) = true := bne_iff_ne.mpr c43; subst hr_; exact absurd H (by simp)
      ·
       rw [if_neg c41] at H; have c41b0 : (t648 == 0) = false := beq_eq_false_iff_ne.mpr c41; have c41b1 : (t648 != 0) = true := bne_iff_ne.mpr c41; by_cases c51 : (t644.length : Int) = 0
       ·
        rw [if_pos c51] at H; have c51b0 : ((t644.length : Int) == 0) = true := beq_iff_eq.mpr c51; have c51b1 : ((t644.length : Int) != 0) = false := bne_eq_false_iff_eq.mpr c51; clear c51; obtain rfl := Option.some.inj H; go_wp2_with (first | ((with_reducible refine gate_callee (f := 30) rfl ?_); refine goesL_ (some 58) rfl rfl Tryz.func30 (by kernel_rfl) rfl #[.string a1] rfl (by (try simp only [List.map_toArray, List.map_cons, List.map_nil]); first | done | rfl | (simp only [List.length_drop, List.length_take]; rfl)) ?_; (with_reducible refine (tariff_Parse.calls kj20 a1 t643 t644 t647 t648 _ ?side1 A40.out).mono ?_); (case side1 => exact GI.below HG.out (eG HB.out)); rintro e w52 ⟨v645, rfl, ho0, hb⟩; refine ⟨_, rfl, ?_⟩; have n0_ := Aside0.mk (Kd.R_lower ho0 (below_size (eG HB.out))); have n1_ := Aside0.mk (blk_below (bG BK625.out) hb); have n2_ := Aside0.mk (below_step (eG HB.out) hb); clear BK625; clear HB; have HO646 := n0_; have BK625 := n1_; have HB := n2_; clear n0_ n1_ n2_; (try clear hb); (try clear hb2); (try clear hk); (try clear hi); (try clear ho0)) | ((with_reducible refine gate_dst (N := 10) rfl ?_); (try (refine gate_guard (by rfl) ?_; dsimp only)); refine box_event ?hg (N := 10) ?hd (cs := #[.int .i64 0, .slice none 0 0]) (t := 24) ?hr ?_; (case hd => rfl); (case hg => rfl); (case hr => first | (go_simp; done) | (go_simp; rfl)); intro gb649 hg w53 hbox hb; have n0_ := Aside0.mk (Kd.R_below (rG HO646.out) hb); have n1_ := Aside0.mk (blk_below (bG BK625.out) hb); have n2_ := Aside0.mk (below_step (eG HB.out) hb); have n3_ := Aside0.mk (hbox); have n4_ := Aside0.mk ((by rw [hg]; exact (below_size (eG HB.out)) : w.heap.size ≤ gb649)); have n5_ := Aside0.mk ((by rw [hg]; exact (below_size (eG HB.out)) : w.heap.size ≤ gb649)); have n6_ := Aside0.mk ((by rw [hg]; exact Nat.ne_of_lt (blk_lt (bG BK625.out)) : gb625 ≠ gb649)); have n7_ := Aside0.mk ((by rw [hg]; exact Nat.ne_of_gt (blk_lt (bG BK625.out)) : gb649 ≠ gb625)); clear HO646; clear BK625; clear HB; have HO646 := n0_; have BK625 := n1_; have HB := n2_; have BK649 := n3_; have GW649 := n4_; have GE649 := n5_; have ig649_ := geI GE649; have NB625_649 := n6_; have NB649_625 := n7_; clear n0_ n1_ n2_ n3_ n4_ n5_ n6_ n7_; clear hb hbox hg; have hnb54 := NB649_625.out; have hnc54 := NB625_649.out; have hcz55_0 : w53.cell? ⟨gb649, 0, none⟩ = some (.int .i64 0) := (blk_cell BK649.out 0).trans rfl; have hcz55_1 : w53.cell? ⟨gb649, 1, none⟩ = some (.slice none 0 0) := (blk_cell BK649.out 1).trans rfl; have hfz55_0 := blk_frozen BK649.out 0; have hfz55_1 := blk_frozen BK649.out 1; obtain ⟨Ao56, co56, eo56⟩ := Kd.R_slice HO646.out; subst eo56))
        go_ret
        exact ⟨by first | rfl | (simp [errW_none, errW_some] <;> rfl) | (simp [*, errW_none, errW_some] <;> rfl), eG HB.out⟩
       ·
        rw [if_neg c51] at H; have c51b0 : ((t644.length : Int) == 0) = false := beq_eq_false_iff_ne.mpr c51; have c51b1 : ((t644.length : Int) != 0) = true := bne_iff_ne.mpr c51; have c51b2 : ¬ (t644 = []) := fun h_ => c51 (by rw [h_]; rfl)
        subst hr_; exact absurd H (by simp)
def bits_Mul64.f (a0 : Int) (a1 : Int) : Option (Int × Int) := some (IntKind.u64.wrap ((IntKind.u64.wrap ((IntKind.u64.wrap ((a0 / 4294967296) * (a1 / 4294967296))) + ((IntKind.u64.wrap ((IntKind.u64.wrap ((a0 / 4294967296) * (Go.bits .and .u64 a1 4294967295))) + ((IntKind.u64.wrap ((Go.bits .and .u64 a0 4294967295) * (Go.bits .and .u64 a1 4294967295))) / 4294967296))) / 4294967296))) + ((IntKind.u64.wrap ((Go.bits .and .u64 (IntKind.u64.wrap ((IntKind.u64.wrap ((a0 / 4294967296) * (Go.bits .and .u64 a1 4294967295))) + ((IntKind.u64.wrap ((Go.bits .and .u64 a0 4294967295) * (Go.bits .and .u64 a1 4294967295))) / 4294967296))) 4294967295) + (IntKind.u64.wrap ((Go.bits .and .u64 a0 4294967295) * (a1 / 4294967296))))) / 4294967296)), IntKind.u64.wrap (a0 * a1))
end Go.Proofs.YtholbmidciapdaaGreatDoor.Pr
namespace Go.Proofs.YtholbmidciapdaaGreatDoor.Pr
open Go.RowKit Go.Proofs.YtholbmidciapdaaGreatDoorW.PrintWords Go.Proofs.YtholbmidciapdaaGreatDoorW.PrintLast Go.Proofs.YtholbmidciapdaaGreatDoorW.PrintMore Go.Proofs.YtholbmidciapdaaGreatDoor.X
attribute [local go_sem] max2_int min2_int max_two min_two max_three min_three max_four min_four   -- for this text's walks alone
set_option linter.unusedVariables false
set_option linter.unusedSimpArgs false
mutual
def spileref46_Check.j0 : Nat → Bool → Int → List (S26) → Option (Int × Int)
 | 0, _, _, _ => none
 | k + 1, x12, x262000, x262001 => if x12 = true then (some ((-1), 2)) else (if (x262001.length : Int) > 64 then (some ((-1), 8)) else (spileref46_Check.l0 k 0 x262000 x262001))
def spileref46_Check.l0 : Nat → Int → Int → List (S26) → Option (Int × Int)
 | 0, _, _, _ => none
 | k + 1, x4, x262000, x262001 => if x4 < (x262001.length : Int) then (if 0 ≤ x4 then ((spileref46_right.f ((rd_T26 x262001 x4).f0) ((rd_T26 x262001 x4).f1) ((rd_T26 x262001 x4).f2)).bind fun t263 => (if t263 = true then (if x4 > 0 then (if 0 ≤ (wrap64 (x4 - 1)) then (if (wrap64 (x4 - 1)) < (x262001.length : Int) then ((spileref46_before.f ((rd_T26 x262001 (wrap64 (x4 - 1))).f0) ((rd_T26 x262001 (wrap64 (x4 - 1))).f1) ((rd_T26 x262001 (wrap64 (x4 - 1))).f2) ((rd_T26 x262001 x4).f0) ((rd_T26 x262001 x4).f1) ((rd_T26 x262001 x4).f2)).bind fun t266 => (if t266 = true then (spileref46_Check.l0 k (wrap64 (x4 + 1)) x262000 x262001) else (some (x4, 5)))) else (none)) else (none)) else (spileref46_Check.l0 k (wrap64 (x4 + 1)) x262000 x262001)) else (some (x4, 2)))) else (none)) else (some ((-1), 0))
end
def spileref46_Check.f (k : Nat) (a0_0 : Int) (l0_1 : List (S26)) : Option (Int × Int) := if a0_0 < 1 then (spileref46_Check.j0 k true a0_0 l0_1) else (spileref46_Check.j0 k (decide (a0_0 > 4)) a0_0 l0_1)
def spileref46_Right.f (k : Nat) (a0_0 : Int) (l0_1 : List (S26)) : Option (Bool) := (spileref46_Check.f k a0_0 l0_1).bind fun bt268 => (some (bt268.2 == 0))
end Go.Proofs.YtholbmidciapdaaGreatDoor.Pr
namespace Go.Proofs.YtholbmidciapdaaGreatDoor.Pr
open Go.RowKit Go.Proofs.YtholbmidciapdaaGreatDoorW.PrintWords Go.Proofs.YtholbmidciapdaaGreatDoorW.PrintLast Go.Proofs.YtholbmidciapdaaGreatDoorW.PrintMore Go.Proofs.YtholbmidciapdaaGreatDoor.X
attribute [local go_sem] max2_int min2_int max_two min_two max_three min_three max_four min_four   -- for this text's walks alone
set_option linter.unusedVariables false
set_option linter.unusedSimpArgs false
def spileref46_word.f (a0 : Int) : Option (ByteArray) := if a0 = 1 then (some (⟨#[100, 111, 119, 110]⟩ : ByteArray)) else (if a0 = 2 then (some (⟨#[117, 112]⟩ : ByteArray)) else (if a0 = 3 then (some (⟨#[104, 97, 108, 102, 45, 117, 112]⟩ : ByteArray)) else (some (⟨#[104, 97, 108, 102, 45, 101, 118, 101, 110]⟩ : ByteArray))))
def spileref46_Number.f : Nat → Int → Option (ByteArray)
 | 0, _ => none
 | k + 1, a0 => if a0 < 10 then (some (strOfNums (([(wrap64 (48 + a0)) % 256] : List Int)))) else ((spileref46_Number.f k (wrap64 (Int.tdiv a0 10))).bind fun t445 => ((some (([(wrap64 (48 + (Int.tmod a0 10))) % 256] : List Int) : List Int)).bind fun y446 => (if t445.size + (strOfNums y446).size ≤ 9223372036854775807 then (some (t445 ++ (strOfNums y446))) else (none))))
end Go.Proofs.YtholbmidciapdaaGreatDoor.Pr
namespace Go.Proofs.YtholbmidciapdaaGreatDoor.Pr
open Go.RowKit Go.Proofs.YtholbmidciapdaaGreatDoorW.PrintWords Go.Proofs.YtholbmidciapdaaGreatDoorW.PrintLast Go.Proofs.YtholbmidciapdaaGreatDoorW.PrintMore Go.Proofs.YtholbmidciapdaaGreatDoor.X
attribute [local go_sem] max2_int min2_int max_two min_two max_three min_three max_four min_four   -- for this text's walks alone
set_option linter.unusedVariables false
set_option linter.unusedSimpArgs false
def spileref46_Print.l0 : Nat → ByteArray → Int → Int → List (S26) → Option (ByteArray × Int)
 | 0, _, _, _, _ => none
 | k + 1, x4, x5, x450000, x450001 => if x5 < (x450001.length : Int) then (if 0 ≤ x5 then ((spileref46_Number.f k ((rd_T26 x450001 x5).f0)).bind fun t454 => (if 6 + t454.size ≤ 9223372036854775807 then (if ((⟨#[99, 108, 97, 115, 115, 32]⟩ : ByteArray) ++ t454).size + 6 ≤ 9223372036854775807 then ((spileref46_Number.f k ((rd_T26 x450001 x5).f1)).bind fun t455 => (if (((⟨#[99, 108, 97, 115, 115, 32]⟩ : ByteArray) ++ t454) ++ (⟨#[32, 102, 114, 111, 109, 32]⟩ : ByteArray)).size + t455.size ≤ 9223372036854775807 then (if ((((⟨#[99, 108, 97, 115, 115, 32]⟩ : ByteArray) ++ t454) ++ (⟨#[32, 102, 114, 111, 109, 32]⟩ : ByteArray)) ++ t455).size + 4 ≤ 9223372036854775807 then ((spileref46_Number.f k ((rd_T26 x450001 x5).f2)).bind fun t456 => (if (((((⟨#[99, 108, 97, 115, 115, 32]⟩ : ByteArray) ++ t454) ++ (⟨#[32, 102, 114, 111, 109, 32]⟩ : ByteArray)) ++ t455) ++ (⟨#[32, 97, 116, 32]⟩ : ByteArray)).size + t456.size ≤ 9223372036854775807 then (if ((((((⟨#[99, 108, 97, 115, 115, 32]⟩ : ByteArray) ++ t454) ++ (⟨#[32, 102, 114, 111, 109, 32]⟩ : ByteArray)) ++ t455) ++ (⟨#[32, 97, 116, 32]⟩ : ByteArray)) ++ t456).size + 1 ≤ 9223372036854775807 then (if x4.size + (((((((⟨#[99, 108, 97, 115, 115, 32]⟩ : ByteArray) ++ t454) ++ (⟨#[32, 102, 114, 111, 109, 32]⟩ : ByteArray)) ++ t455) ++ (⟨#[32, 97, 116, 32]⟩ : ByteArray)) ++ t456) ++ (⟨#[10]⟩ : ByteArray)).size ≤ 9223372036854775807 then (spileref46_Print.l0 k (x4 ++ (((((((⟨#[99, 108, 97, 115, 115, 32]⟩ : ByteArray) ++ t454) ++ (⟨#[32, 102, 114, 111, 109, 32]⟩ : ByteArray)) ++ t455) ++ (⟨#[32, 97, 116, 32]⟩ : ByteArray)) ++ t456) ++ (⟨#[10]⟩ : ByteArray))) (wrap64 (x5 + 1)) x450000 x450001) else (none)) else (none)) else (none))) else (none)) else (none))) else (none)) else (none))) else (none)) else (some (x4, 0))
def spileref46_Print.f (k : Nat) (a0_0 : Int) (l0_1 : List (S26)) : Option (ByteArray × Int) := (spileref46_Right.f k a0_0 l0_1).bind fun t450 => (if t450 = true then ((spileref46_word.f a0_0).bind fun t451 => (if 9 + t451.size ≤ 9223372036854775807 then (if ((⟨#[114, 111, 117, 110, 100, 105, 110, 103, 32]⟩ : ByteArray) ++ t451).size + 1 ≤ 9223372036854775807 then (spileref46_Print.l0 k (((⟨#[114, 111, 117, 110, 100, 105, 110, 103, 32]⟩ : ByteArray) ++ t451) ++ (⟨#[10]⟩ : ByteArray)) 0 a0_0 l0_1) else (none)) else (none))) else (some ((⟨#[]⟩ : ByteArray), 1)))
def spileref46_Line.l0 : Nat → ByteArray → Int → Option (ByteArray × ByteArray × Bool)
 | 0, _, _ => none
 | k + 1, x0, x5 => if x5 < (x0.size : Int) then (if 0 ≤ x5 then (if (bt x0 x5) = 10 then (if x5 ≤ (x0.size : Int) then (if 0 ≤ (wrap64 (x5 + 1)) then (if (wrap64 (x5 + 1)) ≤ (x0.size : Int) then (some (x0.extract 0 (x5 : Int).toNat, x0.extract ((wrap64 (x5 + 1)) : Int).toNat x0.size, true)) else (none)) else (none)) else (none)) else (spileref46_Line.l0 k x0 (wrap64 (x5 + 1)))) else (none)) else (some (x0, (⟨#[]⟩ : ByteArray), false))
def spileref46_Line.f (k : Nat) (a0 : ByteArray) : Option (ByteArray × ByteArray × Bool) := spileref46_Line.l0 k a0 0
def spileref46_Words.l0 : Nat → ByteArray → List ByteArray → Int → Int → Option (List ByteArray)
 | 0, _, _, _, _ => none
 | k + 1, x0, x3, x4, x5 => if x5 ≤ (x0.size : Int) then (if x5 = (x0.size : Int) then (if 0 ≤ x4 then (if x4 ≤ x5 then (if x3.length < 8796093022208 then (spileref46_Words.l0 k x0 (x3 ++ [x0.extract (x4 : Int).toNat (x5 : Int).toNat]) (wrap64 (x5 + 1)) (wrap64 (x5 + 1))) else (none)) else (none)) else (none)) else (if 0 ≤ x5 then (if x5 < (x0.size : Int) then (if (bt x0 x5) = 32 then (if 0 ≤ x4 then (if x4 ≤ x5 then (if x3.length < 8796093022208 then (spileref46_Words.l0 k x0 (x3 ++ [x0.extract (x4 : Int).toNat (x5 : Int).toNat]) (wrap64 (x5 + 1)) (wrap64 (x5 + 1))) else (none)) else (none)) else (none)) else (spileref46_Words.l0 k x0 x3 x4 (wrap64 (x5 + 1)))) else (none)) else (none))) else (some x3)
def spileref46_Words.f (k : Nat) (a0 : ByteArray) : Option (List ByteArray) := spileref46_Words.l0 k a0 ([] : List ByteArray) 0 0
end Go.Proofs.YtholbmidciapdaaGreatDoor.Pr
namespace Go.Proofs.YtholbmidciapdaaGreatDoor.Pr
open Go.RowKit Go.Proofs.YtholbmidciapdaaGreatDoorW.PrintWords Go.Proofs.YtholbmidciapdaaGreatDoorW.PrintLast Go.Proofs.YtholbmidciapdaaGreatDoorW.PrintMore Go.Proofs.YtholbmidciapdaaGreatDoor.X
attribute [local go_sem] max2_int min2_int max_two min_two max_three min_three max_four min_four   -- for this text's walks alone
set_option linter.unusedVariables false
set_option linter.unusedSimpArgs false
mutual
def spileref46_Read.j0 : Nat → ByteArray → Bool → Option (Int × Bool)
 | 0, _, _ => none
 | k + 1, x0, x23 => if x23 = true then (some (0, false)) else (spileref46_Read.l0 k x0 0 0)
def spileref46_Read.l0 : Nat → ByteArray → Int → Int → Option (Int × Bool)
 | 0, _, _, _ => none
 | k + 1, x0, x4, x5 => if x5 < (x0.size : Int) then (if 0 ≤ x5 then (if (bt x0 x5) < 48 then (some (0, false)) else (if (bt x0 x5) > 57 then (some (0, false)) else (spileref46_Read.l0 k x0 (wrap64 ((wrap64 (10 * x4)) + (((bt x0 x5) - 48) % 256))) (wrap64 (x5 + 1))))) else (none)) else (some (x4, true))
end
def spileref46_Read.f (k : Nat) (a0 : ByteArray) : Option (Int × Bool) := if (a0.size : Int) = 0 then (spileref46_Read.j0 k a0 true) else (if (a0.size : Int) > 9 then (spileref46_Read.j0 k a0 true) else (if (a0.size : Int) > 1 then (if 0 < (a0.size : Int) then (spileref46_Read.j0 k a0 ((bt a0 0) == 48)) else (none)) else (spileref46_Read.j0 k a0 false)))
end Go.Proofs.YtholbmidciapdaaGreatDoor.Pr
namespace Go.Proofs.YtholbmidciapdaaGreatDoor.Pr
open Go.RowKit Go.Proofs.YtholbmidciapdaaGreatDoorW.PrintWords Go.Proofs.YtholbmidciapdaaGreatDoorW.PrintLast Go.Proofs.YtholbmidciapdaaGreatDoorW.PrintMore Go.Proofs.YtholbmidciapdaaGreatDoor.X
attribute [local go_sem] max2_int min2_int max_two min_two max_three min_three max_four min_four   -- for this text's walks alone
set_option linter.unusedVariables false
set_option linter.unusedSimpArgs false
mutual
def spileref46_Parse.l0 : Nat → ByteArray → Int → Int → List (S26) → Option (Int × (List (S26)) × Int × Int)
 | 0, _, _, _, _ => none
 | k + 1, x0, x6, x465000, x465001 => if x6 = 0 then (spileref46_Parse.j1 k x0 x6 true x465000 x465001) else (spileref46_Parse.j1 k x0 x6 (decide ((x0.size : Int) > 0)) x465000 x465001)
def spileref46_Parse.j1 : Nat → ByteArray → Int → Bool → Int → List (S26) → Option (Int × (List (S26)) × Int × Int)
 | 0, _, _, _, _, _ => none
 | k + 1, x0, x6, x29, x465000, x465001 => if x29 = true then ((spileref46_Line.f k x0).bind fun bt466 => ((spileref46_Words.f k bt466.1).bind fun t469 => (if x6 = 0 then (spileref46_Parse.l1 k bt466.2.1 x6 t469 bt466.2.2 1 x465000 x465001) else (if (t469.length : Int) = 6 then (if 1 < (t469.length : Int) then ((spileref46_Read.f k (rdOf ByteArray.empty t469 1)).bind fun bt476 => (if 3 < (t469.length : Int) then ((spileref46_Read.f k (rdOf ByteArray.empty t469 3)).bind fun bt479 => (if 5 < (t469.length : Int) then ((spileref46_Read.f k (rdOf ByteArray.empty t469 5)).bind fun bt482 => (if bt466.2.2 = true then (if bt476.2 = true then (if bt479.2 = true then (if bt482.2 = true then (if 0 < (t469.length : Int) then (if (rdOf ByteArray.empty t469 0).toList = ([99, 108, 97, 115, 115] : List UInt8) then (if 2 < (t469.length : Int) then (if (rdOf ByteArray.empty t469 2).toList = ([102, 114, 111, 109] : List UInt8) then (if 4 < (t469.length : Int) then (if x465001.length < 5864062014805 then (if ((rdOf ByteArray.empty t469 4).toList = ([97, 116] : List UInt8)) then (spileref46_Parse.l0 k bt466.2.1 (wrap64 (x6 + 1)) x465000 (x465001 ++ [(⟨bt476.1, bt479.1, bt482.1⟩ : S26)])) else (some (0, ([] : List (S26)), x6, 3))) else (none)) else (none)) else (if x465001.length < 5864062014805 then (some (0, ([] : List (S26)), x6, 3)) else (none))) else (none)) else (if x465001.length < 5864062014805 then (some (0, ([] : List (S26)), x6, 3)) else (none))) else (none)) else (if x465001.length < 5864062014805 then (some (0, ([] : List (S26)), x6, 3)) else (none))) else (if x465001.length < 5864062014805 then (some (0, ([] : List (S26)), x6, 3)) else (none))) else (if x465001.length < 5864062014805 then (some (0, ([] : List (S26)), x6, 3)) else (none))) else (if x465001.length < 5864062014805 then (some (0, ([] : List (S26)), x6, 3)) else (none)))) else (none))) else (none))) else (none)) else (some (0, ([] : List (S26)), x6, 3)))))) else ((spileref46_Right.f k x465000 x465001).bind fun t465 => (if t465 = true then (some (x465000, x465001, (-1), 0)) else (some (0, ([] : List (S26)), (-1), 1))))
def spileref46_Parse.l1 : Nat → ByteArray → Int → List ByteArray → Bool → Int → Int → List (S26) → Option (Int × (List (S26)) × Int × Int)
 | 0, _, _, _, _, _, _, _ => none
 | k + 1, x0, x6, x10, x11, x12, x465000, x465001 => if x12 ≤ 4 then (if (x10.length : Int) = 2 then (if 1 < (x10.length : Int) then ((spileref46_word.f x12).bind fun t473 => (if (rdOf ByteArray.empty x10 1).toList = t473.toList then (spileref46_Parse.l1 k x0 x6 x10 x11 (wrap64 (x12 + 1)) x12 x465001) else (spileref46_Parse.l1 k x0 x6 x10 x11 (wrap64 (x12 + 1)) x465000 x465001))) else (none)) else (spileref46_Parse.l1 k x0 x6 x10 x11 (wrap64 (x12 + 1)) x465000 x465001)) else (if x11 = true then (if (x10.length : Int) = 2 then (if 0 < (x10.length : Int) then (if (rdOf ByteArray.empty x10 0).toList = ([114, 111, 117, 110, 100, 105, 110, 103] : List UInt8) then (if x465000 > 0 then (spileref46_Parse.l0 k x0 (wrap64 (x6 + 1)) x465000 x465001) else (some (0, ([] : List (S26)), x6, 3))) else (some (0, ([] : List (S26)), x6, 3))) else (none)) else (some (0, ([] : List (S26)), x6, 3))) else (some (0, ([] : List (S26)), x6, 3)))
end
def spileref46_Parse.f (k : Nat) (a0 : ByteArray) : Option (Int × (List (S26)) × Int × Int) := if (a0.size : Int) > 4096 then (some (0, ([] : List (S26)), (-1), 8)) else (spileref46_Parse.l0 k a0 0 0 ([] : List (S26)))
end Go.Proofs.YtholbmidciapdaaGreatDoor.Pr
namespace Go.Proofs.YtholbmidciapdaaGreatDoor.Opn
open Go Go.RowKit Go.Proofs.YtholbmidciapdaaGreatDoorW.PrintWords Go.Proofs.YtholbmidciapdaaGreatDoor.O Go.Proofs.YtholbmidciapdaaGreatDoor.Pr
theorem opens3 : Opens Tryz.prog 3 (Kd.int .i64) (fun x => (Lit.int .i64 x).wf = true) := opens_int Tryz.underlying3 (by kernel_rfl)
def ok26 (x : S26) : Prop := (Lit.int .i64 x.f0).wf = true ∧ (Lit.int .i64 x.f1).wf = true ∧ (Lit.int .i64 x.f2).wf = true
theorem opens26 : Opens Tryz.prog 26 k26 ok26 :=
  ⟨by kernel_rfl, fun H enc w base sp held fuel cs x h => by
    obtain ⟨xs, n, _, _, hl, hx, hf⟩ := DataW.trod_struct Tryz.underlying26 h
    have hc_ : Tryz.prog.cellsOf 26 = 3 := by kernel_rfl
    rw [hc_] at hl
    obtain ⟨c0, c1, c2, rfl⟩ : ∃ c0 c1 c2, cs = [c0, c1, c2] := by
      clear h hf hx
      rcases cs with _ | ⟨c0, _ | ⟨c1, _ | ⟨c2, _ | ⟨_, _⟩⟩⟩⟩
      all_goals first | exact ⟨_, _, _, rfl⟩ | (simp at hl)
    obtain ⟨y0, hy0⟩ : ∃ y, xs[0]? = some y := ⟨xs[0]'(by rw [hx]; decide), List.getElem?_eq_getElem _⟩
    have e0 : DataW.trod enc Tryz.prog w base sp held n 3 ((List.drop 0 [c0, c1, c2]).take (Tryz.prog.cellsOf 3)) = xs[0]? := hf 0 _ rfl
    rw [hy0, show Tryz.prog.cellsOf 3 = 1 from by kernel_rfl] at e0
    obtain ⟨v0, K0, o0⟩ := opens3.2 H enc w base sp held n _ _ e0
    replace K0 : (Kd.int .i64).K w v0 [c0] := K0
    obtain ⟨y1, hy1⟩ : ∃ y, xs[1]? = some y := ⟨xs[1]'(by rw [hx]; decide), List.getElem?_eq_getElem _⟩
    have e1 : DataW.trod enc Tryz.prog w base sp held n 3 ((List.drop 1 [c0, c1, c2]).take (Tryz.prog.cellsOf 3)) = xs[1]? := hf 1 _ rfl
    rw [hy1, show Tryz.prog.cellsOf 3 = 1 from by kernel_rfl] at e1
    obtain ⟨v1, K1, o1⟩ := opens3.2 H enc w base sp held n _ _ e1
    replace K1 : (Kd.int .i64).K w v1 [c1] := K1
    obtain ⟨y2, hy2⟩ : ∃ y, xs[2]? = some y := ⟨xs[2]'(by rw [hx]; decide), List.getElem?_eq_getElem _⟩
    have e2 : DataW.trod enc Tryz.prog w base sp held n 3 ((List.drop 2 [c0, c1, c2]).take (Tryz.prog.cellsOf 3)) = xs[2]? := hf 2 _ rfl
    rw [hy2, show Tryz.prog.cellsOf 3 = 1 from by kernel_rfl] at e2
    obtain ⟨v2, K2, o2⟩ := opens3.2 H enc w base sp held n _ _ e2
    replace K2 : (Kd.int .i64).K w v2 [c2] := K2
    obtain rfl : c0 = _ := List.singleton_inj.1 K0
    obtain rfl : c1 = _ := List.singleton_inj.1 K1
    obtain rfl : c2 = _ := List.singleton_inj.1 K2
    refine ⟨⟨v0, v1, v2⟩, ?_, o0, o1, o2⟩
    exact k26_mk w ⟨v0, v1, v2⟩ ⟩
theorem opens22 : Opens Tryz.prog 22 (Kd.slice 26 k26) (fun x => (x.length ≤ maxLen ∧ ∀ x0_, x0_ ∈ x → ok26 x0_)) := opens_slice (P := Tryz.prog) (t := 22) (e := 26) Tryz.underlying22 (by kernel_rfl) opens26
def ok24 (x : S24) : Prop := (Lit.int .i64 x.f0).wf = true ∧ (x.f1.length ≤ maxLen ∧ ∀ x0_, x0_ ∈ x.f1 → ok26 x0_)
theorem opens24 : Opens Tryz.prog 24 k24 ok24 :=
  ⟨by kernel_rfl, fun H enc w base sp held fuel cs x h => by
    obtain ⟨xs, n, _, _, hl, hx, hf⟩ := DataW.trod_struct Tryz.underlying24 h
    have hc_ : Tryz.prog.cellsOf 24 = 2 := by kernel_rfl
    rw [hc_] at hl
    obtain ⟨c0, c1, rfl⟩ : ∃ c0 c1, cs = [c0, c1] := by
      clear h hf hx
      rcases cs with _ | ⟨c0, _ | ⟨c1, _ | ⟨_, _⟩⟩⟩
      all_goals first | exact ⟨_, _, rfl⟩ | (simp at hl)
    obtain ⟨y0, hy0⟩ : ∃ y, xs[0]? = some y := ⟨xs[0]'(by rw [hx]; decide), List.getElem?_eq_getElem _⟩
    have e0 : DataW.trod enc Tryz.prog w base sp held n 3 ((List.drop 0 [c0, c1]).take (Tryz.prog.cellsOf 3)) = xs[0]? := hf 0 _ rfl
    rw [hy0, show Tryz.prog.cellsOf 3 = 1 from by kernel_rfl] at e0
    obtain ⟨v0, K0, o0⟩ := opens3.2 H enc w base sp held n _ _ e0
    replace K0 : (Kd.int .i64).K w v0 [c0] := K0
    obtain ⟨y1, hy1⟩ : ∃ y, xs[1]? = some y := ⟨xs[1]'(by rw [hx]; decide), List.getElem?_eq_getElem _⟩
    have e1 : DataW.trod enc Tryz.prog w base sp held n 22 ((List.drop 1 [c0, c1]).take (Tryz.prog.cellsOf 22)) = xs[1]? := hf 1 _ rfl
    rw [hy1, show Tryz.prog.cellsOf 22 = 1 from by kernel_rfl] at e1
    obtain ⟨v1, K1, o1⟩ := opens22.2 H enc w base sp held n _ _ e1
    replace K1 : (Kd.slice 26 k26).K w v1 [c1] := K1
    obtain rfl : c0 = _ := List.singleton_inj.1 K0
    obtain ⟨A1, q1, w1, m1, g1⟩ := K1
    obtain rfl : c1 = _ := List.singleton_inj.1 w1
    refine ⟨⟨v0, v1⟩, ?_, o0, o1⟩
    exact k24_mk w ⟨v0, v1⟩ m1 g1⟩
end Go.Proofs.YtholbmidciapdaaGreatDoor.Opn
namespace Go.Proofs.YtholbmidciapdaaGreatDoor.Pure
open Go Go.RowKit Go.Proofs.YtholbmidciapdaaGreatDoor.Pr Go.Proofs.YtholbmidciapdaaGreatDoor.Opn
def tariffBackPure : Prop := ∀ (a0_0 : Int) (l0_1 : (List S26)) (a1 : ByteArray), (Lit.int .i64 a0_0).wf = true → (l0_1.length ≤ maxLen ∧ ∀ x0_, x0_ ∈ l0_1 → ok26 x0_) → a1.size ≤ maxLen → ∃ k, spilelaw46_TariffBack.f k a0_0 l0_1 a1 = some true
end Go.Proofs.YtholbmidciapdaaGreatDoor.Pure
namespace Go.Proofs.YtholbmidciapdaaGreatDoor.PL
open Go Go.RowKit Go.Proofs.YtholbmidciapdaaGreatDoorW.PrintWords Go.Proofs.YtholbmidciapdaaGreatDoorW.PrintLast Go.Proofs.YtholbmidciapdaaGreatDoorW.PrintMore
theorem evp {α : Type} {c : Prop} [Decidable c] {g h : Nat → Option α} {r : α} (hc : c) (k : Ev g r) : Ev (fun n => if c then g n else h n) r :=
  Ev.congr (fun n => if_pos hc) k
theorem evn {α : Type} {c : Prop} [Decidable c] {g h : Nat → Option α} {r : α} (hc : ¬ c) (k : Ev h r) : Ev (fun n => if c then g n else h n) r :=
  Ev.congr (fun n => if_neg hc) k
theorem evb {α β : Type} {g : Nat → Option α} {f : Nat → α → Option β} {a : α} {r : β} (h : Ev g a) (k : Ev (fun n => f n a) r) : Ev (fun n => (g n).bind (f n)) r := Ev.bind h k
theorem evr {α : Type} {a r : α} (h : a = r) : Ev (fun _ => some a) r := by subst h; exact Ev.now _
theorem evc {α : Type} {g : Nat → Option α} {r : α} {o : Option α} (hg : ∀ n, g n = o) (h : o = some r) : Ev g r := by
  subst h
  exact Ev.congr hg (Ev.now _)
/-- A loop that counts upwards to n. -/
theorem count_up (a n : Int) (P : Int → Prop) (hend : P n) (hround : ∀ i, a ≤ i → i < n → P (i + 1) → P i) : ∀ i, a ≤ i → i ≤ n → P i := by
  intro i h0 h1
  obtain ⟨d, hd⟩ : ∃ d : Nat, n - i = d := ⟨(n - i).toNat, by omega⟩
  induction d generalizing i with
  | zero =>
    obtain rfl : i = n := by omega
    exact hend
  | succ d ih => exact hround i h0 (by omega) (ih (i + 1) (by omega) (by omega) (by omega))
theorem w64 {x : Int} (h0 : -9223372036854775808 ≤ x) (h1 : x ≤ 9223372036854775807) : wrap64 x = x := by
  unfold wrap64
  omega
theorem w64_succ {i n : Int} (h0 : 0 ≤ i) (h : i < n) (hn : n ≤ 9223372036854775807) : wrap64 (i + 1) = i + 1 := w64 (by omega) (by omega)
theorem w64_pred {i n : Int} (h0 : 0 ≤ i) (h : i ≤ n) (hn : n ≤ 9223372036854775807) : wrap64 (i - 1) = i - 1 := w64 (by omega) (by omega)
/-- A test that comes to true where P holds, and else to false. -/
def EvB (g : Nat → Option Bool) (P : Prop) : Prop := (P → Ev g true) ∧ (¬ P → Ev g false)
theorem EvB.map {g : Nat → Option Bool} {f : Nat → Bool → Option Bool} {P Q : Prop} (h : EvB g P) (ht : P → EvB (fun n => f n true) Q) (hf : ¬ P → EvB (fun n => f n false) Q) : EvB (fun n => (g n).bind (f n)) Q := by
  by_cases hp : P
  · exact ⟨fun q => Ev.bind (h.1 hp) ((ht hp).1 q), fun q => Ev.bind (h.1 hp) ((ht hp).2 q)⟩
  · exact ⟨fun q => Ev.bind (h.2 hp) ((hf hp).1 q), fun q => Ev.bind (h.2 hp) ((hf hp).2 q)⟩
end Go.Proofs.YtholbmidciapdaaGreatDoor.PL
namespace Go.Proofs.YtholbmidciapdaaGreatDoor.PL
open Go Go.RowKit Go.Proofs.YtholbmidciapdaaGreatDoorW.PrintWords Go.Proofs.YtholbmidciapdaaGreatDoorW.PrintLast Go.Proofs.YtholbmidciapdaaGreatDoorW.PrintMore Go.Proofs.YtholbmidciapdaaGreatDoor.Pr Go.Proofs.YtholbmidciapdaaGreatDoor.TX Go.Proofs.YtholbmidciapdaaGreatDoor.X
def ba (l : List UInt8) : ByteArray := ⟨l.toArray⟩
theorem ba_data (s : ByteArray) : ba s.data.toList = s := by obtain ⟨⟨l⟩⟩ := s; rfl
theorem ba_list (l : List UInt8) : (ba l).data.toList = l := rfl
theorem ba_toList (l : List UInt8) : (ba l).toList = l := by rw [Lib.toList_data]; rfl
theorem ba_size (l : List UInt8) : (ba l).size = l.length := rfl
theorem size_data (s : ByteArray) : s.data.toList.length = s.size := Array.length_toList
theorem ba_ex (s : ByteArray) (a b : Nat) : s.extract a b = ba ((s.data.toList.take b).drop a) := by
  rw [← ba_data (s.extract a b), Lib.extract_data, List.drop_take]
theorem ba_app (a b : List UInt8) : ba a ++ ba b = ba (a ++ b) := by
  rw [← ba_data (ba a ++ ba b)]
  congr 1
theorem byte_at (s : ByteArray) {i : Int} (h0 : 0 ≤ i) (h1 : i < (s.size : Int)) : ∃ b : UInt8, s.data.toList.drop i.toNat = b :: s.data.toList.drop (i + 1).toNat ∧
    s.data.toList.take (i + 1).toNat = s.data.toList.take i.toNat ++ [b] ∧ bt s i = (b.toNat : Int) := by
  have hl : i.toNat < s.data.toList.length := by rw [size_data]; omega
  refine ⟨s.data.toList[i.toNat], ?_, ?_, ?_⟩
  · rw [show (i + 1).toNat = i.toNat + 1 from by omega, ← List.drop_eq_getElem_cons hl]
  · rw [show (i + 1).toNat = i.toNat + 1 from by omega, List.take_add_one, List.getElem?_eq_getElem hl]; rfl
  · rw [← bt_at s i (by omega)]
    obtain ⟨⟨l⟩⟩ := s
    rfl
theorem drop_end (s : ByteArray) : s.data.toList.drop ((s.size : Int)).toNat = [] := by
  rw [show ((s.size : Int)).toNat = s.size from by omega, ← size_data, List.drop_length]
def wrd (c : UInt8) : List UInt8 → List UInt8 → List (List UInt8)
  | p, [] => [p]
  | p, b :: r => if b = c then p :: wrd c [] r else wrd c (p ++ [b]) r
theorem wrd_cons (c b : UInt8) (p r : List UInt8) : wrd c p (b :: r) = if b = c then p :: wrd c [] r else wrd c (p ++ [b]) r := rfl
theorem wrd_eq (c : UInt8) : ∀ s p : List UInt8, wrd c p s = match parts c s with
    | [] => [p]
    | q :: t => (p ++ q) :: t
  | [], p => by simp [wrd, parts]
  | b :: r, p => by
    rw [wrd_cons, parts_cons]
    by_cases h : b = c
    · rw [if_pos h, if_pos h, wrd_eq c r []]
      cases hp : parts c r with
      | nil => exact absurd hp (parts_ne c r)
      | cons q t => simp
    · rw [if_neg h, if_neg h, wrd_eq c r (p ++ [b])]
      cases hp : parts c r with
      | nil => exact absurd hp (parts_ne c r)
      | cons q t => simp
theorem wrd_parts (c : UInt8) (s : List UInt8) : wrd c [] s = parts c s := by
  rw [wrd_eq]
  cases hp : parts c s with
  | nil => exact absurd hp (parts_ne c s)
  | cons q t => simp
theorem toNat_eq (b : UInt8) (n : Nat) (hn : n < 256) : ((b.toNat : Int) = (n : Int)) ↔ b = UInt8.ofNat n := by
  constructor
  · intro h
    refine UInt8.toNat_inj.1 ?_
    rw [UInt8.toNat_ofNat']; omega
  · rintro rfl
    rw [UInt8.toNat_ofNat']; omega
theorem split_ev (s : ByteArray) (hs : s.size < 4294967281) : strings_Split.f s ⟨#[32]⟩ = some ((parts 32 s.data.toList).map ba) := by
  unfold strings_Split.f
  rw [if_pos ⟨hs, rfl⟩]
  refine congrArg some ?_
  have e := Lib.splitB_data ⟨#[32]⟩ 0 (Lib.countB s ⟨#[32]⟩) s
  have e2 : Lib.splitK [32] 0 (Lib.countB s ⟨#[32]⟩) s.data.toList = parts 32 s.data.toList := split_eq 32 s.data.toList
  have e3 : (Lib.splitB ⟨#[32]⟩ 0 (Lib.countB s ⟨#[32]⟩) s).map (·.data.toList) = parts 32 s.data.toList := e.trans e2
  rw [← e3, List.map_map]
  refine (List.map_congr_left (fun x _ => ba_data x) |>.trans (List.map_id _)).symm
def lin : List UInt8 → List UInt8 → List (List UInt8) × Bool
  | p, [] => if p = [] then ([], true) else ([p], false)
  | p, b :: r => if b = 10 then (p :: (lin [] r).1, (lin [] r).2) else lin (p ++ [b]) r
theorem lin_cons (p : List UInt8) (b : UInt8) (r : List UInt8) : lin p (b :: r) = if b = 10 then (p :: (lin [] r).1, (lin [] r).2) else lin (p ++ [b]) r := rfl
theorem lin_cut : ∀ (s p : List UInt8), lin p s = if (cut1 10 s).2.2 = true then ((p ++ (cut1 10 s).1) :: (lin [] (cut1 10 s).2.1).1, (lin [] (cut1 10 s).2.1).2) else if p ++ s = [] then ([], true) else ([p ++ s], false)
  | [], p => by simp [lin, cut1]
  | b :: r, p => by
    rw [lin_cons, cut1_cons]
    by_cases h : b = 10
    · rw [if_pos h, if_pos h]; simp
    · rw [if_neg h, if_neg h, lin_cut r (p ++ [b])]
      simp
def numR (most : Nat) (l : List UInt8) : Int × Bool := match numP most l with
  | some v => ((v : Int), true)
  | none => (0, false)
theorem itoa_f {n : Int} (h0 : -9223372036854775808 ≤ n) (h1 : n ≤ 9223372036854775807) : strconv_Itoa.f n = some (ba (Lib.itoa n)) := by
  unfold strconv_Itoa.f
  rw [if_pos h0, if_pos h1]
  rfl
end Go.Proofs.YtholbmidciapdaaGreatDoor.PL
namespace Go.Proofs.YtholbmidciapdaaGreatDoor.PL
open Go Go.RowKit Go.Proofs.YtholbmidciapdaaGreatDoorW.PrintWords Go.Proofs.YtholbmidciapdaaGreatDoorW.PrintLast Go.Proofs.YtholbmidciapdaaGreatDoorW.PrintMore Go.Proofs.YtholbmidciapdaaGreatDoor.Pr Go.Proofs.YtholbmidciapdaaGreatDoor.TX Go.Proofs.YtholbmidciapdaaGreatDoor.X
theorem lin_len : ∀ (t p : List UInt8), (lin p t).1.length ≤ t.length + 1
  | [], p => by unfold lin; split <;> simp
  | b :: r, p => by
    rw [lin_cons]
    by_cases c : b = 10
    · rw [if_pos c]; have := lin_len r []; simp; omega
    · rw [if_neg c]; have := lin_len r (p ++ [b]); simp; omega
theorem lin_nil {s : List UInt8} {e : Bool} (h : lin [] s = ([], e)) : s = [] ∧ e = true := by
  rw [lin_cut] at h
  by_cases c : (cut1 10 s).2.2 = true
  · rw [if_pos c] at h; simp at h
  · rw [if_neg c] at h
    by_cases c2 : ([] : List UInt8) ++ s = []
    · rw [if_pos c2] at h
      exact ⟨by simpa using c2, (congrArg Prod.snd h).symm⟩
    · rw [if_neg c2] at h; simp at h
theorem lin_next {s l : List UInt8} {r : List (List UInt8)} {e : Bool} (h : lin [] s = (l :: r, e)) :
    (cut1 10 s).1 = l ∧ (((cut1 10 s).2.2 = true ∧ lin [] (cut1 10 s).2.1 = (r, e)) ∨ ((cut1 10 s).2.2 = false ∧ (cut1 10 s).2.1 = [] ∧ r = [] ∧ e = false)) ∧ s ≠ [] ∧ l.length ≤ s.length := by
  have hne : s ≠ [] := fun e2 => by rw [e2] at h; simp [lin] at h
  rw [lin_cut] at h
  by_cases c : (cut1 10 s).2.2 = true
  · rw [if_pos c] at h
    simp only [List.nil_append, Prod.mk.injEq, List.cons.injEq] at h
    refine ⟨h.1.1, .inl ⟨c, Prod.ext h.1.2 h.2⟩, hne, ?_⟩
    have := congrArg List.length (cut1_sum 10 s c)
    rw [List.length_append, h.1.1] at this
    omega
  · rw [if_neg c, if_neg (by simpa using hne)] at h
    simp only [List.nil_append, Prod.mk.injEq, List.cons.injEq] at h
    have := cut1_no 10 s (Bool.eq_false_iff.2 c)
    exact ⟨by rw [this.1]; exact h.1.1, .inr ⟨Bool.eq_false_iff.2 c, this.2, h.1.2.symm, h.2.symm⟩, hne, by rw [h.1.1]; exact Nat.le_refl _⟩
section
variable {α : Type}
/-- Line by line: the first line that has no such thing, or no line feed, stops it. -/
def run (lineL : List UInt8 → Option α) (e : Bool) : List (List UInt8) → List α → List α × Option Nat
  | [], out => (out, none)
  | l :: r, out => match lineL l with
    | none => ([], some out.length)
    | some x => if r = [] ∧ e = false then ([], some out.length) else run lineL e r (out ++ [x])
theorem run_cons (lineL : List UInt8 → Option α) (e : Bool) (l : List UInt8) (r : List (List UInt8)) (out : List α) : run lineL e (l :: r) out = match lineL l with
    | none => ([], some out.length)
    | some x => if r = [] ∧ e = false then ([], some out.length) else run lineL e r (out ++ [x]) := rfl
def printL (lineT : α → List UInt8) : List α → List UInt8
  | [] => []
  | x :: r => lineT x ++ 10 :: printL lineT r
theorem lin_print {lineT : α → List UInt8} : ∀ l : List α, (∀ x, x ∈ l → (10 : UInt8) ∉ lineT x) → lin [] (printL lineT l) = (l.map lineT, true)
  | [], _ => rfl
  | x :: r, h => by
    have hx := h x (by simp)
    rw [lin_cut]
    rw [show printL lineT (x :: r) = lineT x ++ 10 :: printL lineT r from rfl, cut1_first 10 _ _ hx]
    simp only [if_true, List.nil_append]
    rw [lin_print r (fun z hz => h z (by simp [hz]))]
    rfl
theorem run_print {lineL : List UInt8 → Option α} {lineT : α → List UInt8} : ∀ (l out : List α), (∀ x, x ∈ l → lineL (lineT x) = some x) → run lineL true (l.map lineT) out = (out ++ l, none)
  | [], out, _ => by simp [run]
  | x :: r, out, h => by
    rw [List.map_cons, run_cons, h x (by simp)]
    simp only []
    rw [if_neg (by simp), run_print r (out ++ [x]) (fun z hz => h z (by simp [hz]))]
    simp
theorem run_again {lineL : List UInt8 → Option α} {lineT : α → List UInt8} (hb : ∀ l x, lineL l = some x → lineT x = l) (e : Bool) : ∀ (ls : List (List UInt8)) (s : List UInt8) (out o : List α), lin [] s = (ls, e) → run lineL e ls out = (o, none) → ∃ xs, o = out ++ xs ∧ printL lineT xs = s
  | [], s, out, o, h, hr => by
    obtain ⟨rfl, _⟩ := lin_nil h
    have := congrArg Prod.fst hr
    exact ⟨[], by simp [run] at this ⊢; exact this.symm, rfl⟩
  | l :: r, s, out, o, h, hr => by
    obtain ⟨e1, e2, _⟩ := lin_next h
    rw [run_cons] at hr
    cases hx : lineL l with
    | none => rw [hx] at hr; simp at hr
    | some x =>
      rw [hx] at hr
      simp only [] at hr
      by_cases c : r = [] ∧ e = false
      · rw [if_pos c] at hr; simp at hr
      · rw [if_neg c] at hr
        rcases e2 with ⟨cf, hrest⟩ | ⟨_, _, h1, h2⟩
        · obtain ⟨xs, g1, g2⟩ := run_again hb e r _ (out ++ [x]) o hrest hr
          refine ⟨x :: xs, by rw [g1]; simp, ?_⟩
          show lineT x ++ 10 :: printL lineT xs = s
          rw [g2, hb l x hx, ← e1]
          exact (cut1_sum 10 s cf).symm
        · exact absurd ⟨h1, h2⟩ c
theorem printL_len {lineT : α → List UInt8} {m : Nat} : ∀ l : List α, (∀ x, x ∈ l → (lineT x).length ≤ m) → (printL lineT l).length ≤ (m + 1) * l.length
  | [], _ => by simp [printL]
  | x :: r, h => by
    have a := h x (by simp)
    have b := printL_len r (fun z hz => h z (by simp [hz]))
    simp only [printL, List.length_append, List.length_cons]
    rw [Nat.mul_add, Nat.mul_one]; omega
end
theorem itoa_dig {n : Int} (h0 : 0 ≤ n) : Lib.itoa n = Lib.decDigits n.toNat := by unfold Lib.itoa; rw [if_neg (by omega)]
theorem itoa_le {n : Int} {m : Nat} (h0 : 0 ≤ n) (h1 : n < 10 ^ m) (hm : 1 ≤ m) : (Lib.itoa n).length ≤ m := by
  rw [itoa_dig h0]
  refine digits_length_le ?_ hm
  have : ((n.toNat : Nat) : Int) < ((10 ^ m : Nat) : Int) := by rw [Int.natCast_pow]; show ((n.toNat : Nat) : Int) < 10 ^ m; omega
  exact Int.ofNat_lt.1 this
theorem itoa_numP {n : Int} {m : Nat} (h0 : 0 ≤ n) (h1 : n < 10 ^ m) (hm : 1 ≤ m) : numP m (Lib.itoa n) = some n.toNat := by
  have := itoa_le h0 h1 hm
  rw [itoa_dig h0] at this ⊢
  exact numP_digits this
theorem itoa_no {n : Int} (h0 : 0 ≤ n) {c : UInt8} (hc : isDig c = false) : c ∉ Lib.itoa n := by
  rw [itoa_dig h0]
  exact digit_not (digits_all _) hc
theorem numP_itoa {m v : Nat} {s : List UInt8} (h : numP m s = some v) : Lib.itoa (v : Int) = s := by
  rw [itoa_dig (by omega), Int.toNat_natCast]; exact (numP_text h).1
end Go.Proofs.YtholbmidciapdaaGreatDoor.PL
namespace Go.Proofs.YtholbmidciapdaaGreatDoor.PL
open Go Go.RowKit Go.Proofs.YtholbmidciapdaaGreatDoorW.PrintWords Go.Proofs.YtholbmidciapdaaGreatDoorW.PrintLast Go.Proofs.YtholbmidciapdaaGreatDoorW.PrintMore Go.Proofs.YtholbmidciapdaaGreatDoor.Pr
def Lt26 (a b : S26) : Prop := a.f0 < b.f0 ∨ (a.f0 = b.f0 ∧ a.f1 < b.f1)
instance (a b : S26) : Decidable (Lt26 a b) := by unfold Lt26; infer_instance
def Key26 (a b : S26) : Prop := a.f0 = b.f0 ∧ a.f1 = b.f1
instance (a b : S26) : Decidable (Key26 a b) := by unfold Key26; infer_instance
def Hit (c d : Int) (x : S26) : Prop := x.f0 = c ∧ x.f1 ≤ d
instance (c d : Int) (x : S26) : Decidable (Hit c d x) := by unfold Hit; infer_instance
abbrev Srt (l : List S26) : Prop := l.Pairwise Lt26
/-- The greatest one of some days: behind lo, or from lo on. -/
def Mst (strict : Bool) (c lo hi : Int) (s : S26 × Bool) (x : S26) : Prop := x.f0 = c ∧ (if strict = true then lo < x.f1 else lo ≤ x.f1) ∧ x.f1 ≤ hi ∧ (s.2 = false ∨ s.1.f2 < x.f2)
instance (b : Bool) (c lo hi : Int) (s : S26 × Bool) (x : S26) : Decidable (Mst b c lo hi s x) := by unfold Mst; infer_instance
theorem lt_trans26 {a b c : S26} (h1 : Lt26 a b) (h2 : Lt26 b c) : Lt26 a c := by unfold Lt26 at *; omega
end Go.Proofs.YtholbmidciapdaaGreatDoor.PL
namespace Go.Proofs.YtholbmidciapdaaGreatDoor.PL
open Go Go.RowKit Go.Proofs.YtholbmidciapdaaGreatDoorW.PrintWords Go.Proofs.YtholbmidciapdaaGreatDoorW.PrintLast Go.Proofs.YtholbmidciapdaaGreatDoorW.PrintMore Go.Proofs.YtholbmidciapdaaGreatDoor.Pr Go.Proofs.YtholbmidciapdaaGreatDoor.X
theorem within_eq (a b c : Int) : tariff_within.f a b c = some (decide (b ≤ a ∧ a ≤ c)) := by
  unfold tariff_within.f
  by_cases h : a ≥ b
  · rw [if_pos h]; exact congrArg some (decide_eq_decide.2 ⟨fun q => ⟨h, q⟩, fun q => q.2⟩)
  · rw [if_neg h, decide_eq_false (fun q => h q.1)]
def Rng (x : S26) : Prop := (1 ≤ x.f0 ∧ x.f0 ≤ 9) ∧ (0 ≤ x.f1 ∧ x.f1 ≤ 100000) ∧ 0 ≤ x.f2 ∧ x.f2 ≤ 1000000
instance (x : S26) : Decidable (Rng x) := by unfold Rng; infer_instance
theorem ranged_eq (a b c : Int) : tariff_ranged.f a b c = some (decide (Rng ⟨a, b, c⟩)) := by
  unfold tariff_ranged.f
  simp only [within_eq, Option.bind_some]
  by_cases h1 : 1 ≤ a ∧ a ≤ 9
  · rw [if_pos (decide_eq_true h1)]
    by_cases h2 : 0 ≤ b ∧ b ≤ 100000
    · rw [if_pos (decide_eq_true h2)]
      exact congrArg some (decide_eq_decide.2 ⟨fun q => ⟨h1, h2, q⟩, fun q => q.2.2⟩)
    · rw [if_neg (by simpa using h2), decide_eq_false (fun q : Rng ⟨a, b, c⟩ => h2 q.2.1)]
  · rw [if_neg (by simpa using h1), decide_eq_false (fun q : Rng ⟨a, b, c⟩ => h1 q.1)]
theorem refright_eq (a b c : Int) : spileref46_right.f a b c = some (decide (Rng ⟨a, b, c⟩)) := by
  unfold spileref46_right.f
  by_cases h1 : a ≥ 1
  case neg => rw [if_neg h1, decide_eq_false (fun q : Rng ⟨a, b, c⟩ => h1 q.1.1)]
  rw [if_pos h1]
  by_cases h2 : a ≤ 9
  case neg => rw [if_neg h2, decide_eq_false (fun q : Rng ⟨a, b, c⟩ => h2 q.1.2)]
  rw [if_pos h2]
  by_cases h3 : b ≥ 0
  case neg => rw [if_neg h3, decide_eq_false (fun q : Rng ⟨a, b, c⟩ => h3 q.2.1.1)]
  rw [if_pos h3]
  by_cases h4 : b ≤ 100000
  case neg => rw [if_neg h4, decide_eq_false (fun q : Rng ⟨a, b, c⟩ => h4 q.2.1.2)]
  rw [if_pos h4]
  by_cases h5 : c ≥ 0
  case neg => rw [if_neg h5, decide_eq_false (fun q : Rng ⟨a, b, c⟩ => h5 q.2.2.1)]
  rw [if_pos h5]
  exact congrArg some (decide_eq_decide.2 ⟨fun q => ⟨⟨h1, h2⟩, ⟨h3, h4⟩, h5, q⟩, fun q => q.2.2.2⟩)
def cmpv (a b : Int) : Int := if a < b then -1 else if a > b then 1 else 0
theorem cmp_eq (a b : Int) : cmp_Compare_int.f a b = some (cmpv a b) := by
  unfold cmp_Compare_int.f cmp_isNaN_int.f cmpv
  simp only [bne_self_eq_false, Option.bind_some, Bool.false_eq_true, if_false]
  split
  · rfl
  · split <;> rfl
theorem or_ev (x y : Int) : Ev (fun k => cmp_Or_int.f k [x, y]) (if x = 0 then y else x) := by
  refine Ev.step (fun k => cmp_Or_int.l0.eq_2 ..) (evp (by simp) (evp (by omega) (evp (by simp) ?_)))
  rw [show rd [x, y] 0 = x from rfl, show wrap64 (0 + 1) = 1 from by unfold wrap64; omega]
  by_cases c : x = 0
  · rw [if_pos c]
    refine evp c (Ev.step (fun k => cmp_Or_int.l0.eq_2 ..) (evp (by simp) (evp (by omega) (evp (by simp) ?_))))
    rw [show rd [x, y] 1 = y from rfl, show wrap64 (1 + 1) = 2 from by unfold wrap64; omega]
    by_cases d : y = 0
    · refine evp d (Ev.step (fun k => cmp_Or_int.l0.eq_2 ..) (evn (by simp) (evr d.symm)))
    · exact evn d (Ev.now _)
  · rw [if_neg c]; exact evn c (Ev.now _)
theorem compare_ev (a b : S26) : ∃ v, Ev (fun k => tariff_compare.f k a.f0 a.f1 a.f2 b.f0 b.f1 b.f2) v ∧ (v < 0 ↔ Lt26 a b) ∧ (v = 0 ↔ Key26 a b) := by
  refine ⟨_, evb (evc (fun _ => rfl) (cmp_eq _ _)) (evb (evc (fun _ => rfl) (cmp_eq _ _)) (evb (or_ev _ _) (Ev.now _))), ?_, ?_⟩
  · unfold cmpv Lt26; split <;> (try split) <;> (try split) <;> omega
  · unfold cmpv Key26; split <;> (try split) <;> (try split) <;> omega
theorem before_eq (a b : S26) : spileref46_before.f a.f0 a.f1 a.f2 b.f0 b.f1 b.f2 = some (decide (Lt26 a b)) := by
  unfold spileref46_before.f
  by_cases h : a.f0 < b.f0
  · rw [if_pos h]; exact congrArg some (decide_eq_true (show Lt26 a b from .inl h)).symm
  · rw [if_neg h]
    by_cases h2 : a.f0 = b.f0
    · rw [if_pos h2]; exact congrArg some (decide_eq_decide.2 ⟨fun q => (show Lt26 a b from .inr ⟨h2, q⟩), fun q => by unfold Lt26 at q; omega⟩)
    · rw [if_neg h2]; exact congrArg some (decide_eq_false (show ¬ Lt26 a b from fun q => by unfold Lt26 at q; omega)).symm
theorem rd26_get {l : List S26} {i : Nat} (h : i < l.length) : rd_T26 l (i : Int) = l[i] := by
  unfold rd_T26
  rw [Int.toNat_natCast, List.getD_eq_getElem?_getD, List.getElem?_eq_getElem h]
  rfl
theorem rd26_mem {l : List S26} {i : Int} (h0 : 0 ≤ i) (h : i < (l.length : Int)) : rd_T26 l i ∈ l := by
  obtain ⟨n, rfl⟩ : ∃ n : Nat, i = (n : Int) := ⟨i.toNat, by omega⟩
  rw [rd26_get (by omega)]
  exact List.getElem_mem _
theorem rd26_of_mem {l : List S26} {x : S26} (h : x ∈ l) : ∃ i : Int, 0 ≤ i ∧ i < (l.length : Int) ∧ rd_T26 l i = x := by
  obtain ⟨i, hi, rfl⟩ := List.mem_iff_getElem.1 h
  exact ⟨(i : Int), by omega, by omega, rd26_get hi⟩
theorem drop26 {l : List S26} {i : Int} (h0 : 0 ≤ i) (h1 : i < (l.length : Int)) : l.drop i.toNat = rd_T26 l i :: l.drop (i + 1).toNat := by
  obtain ⟨n, rfl⟩ : ∃ n : Nat, i = (n : Int) := ⟨i.toNat, by omega⟩
  rw [rd26_get (by omega), Int.toNat_natCast, show ((n : Int) + 1).toNat = n + 1 from by omega]
  exact List.drop_eq_getElem_cons (by omega)
def OKT (r : Int) (l : List S26) : Prop := (1 ≤ r ∧ r ≤ 4) ∧ (l.length : Int) ≤ 64 ∧ (∀ x, x ∈ l → Rng x) ∧ Srt l
theorem chain_lt {l : List S26} (h : ∀ j, 0 < j → j < (l.length : Int) → Lt26 (rd_T26 l (j - 1)) (rd_T26 l j)) : ∀ (d : Nat) (a : Int), 0 ≤ a → a + d + 1 < (l.length : Int) → Lt26 (rd_T26 l a) (rd_T26 l (a + d + 1))
  | 0, a, h0, h1 => by
    have := h (a + 1) (by omega) (by omega)
    rw [show a + 1 - 1 = a from by omega] at this
    rwa [show a + ((0 : Nat) : Int) + 1 = a + 1 from by omega]
  | d + 1, a, h0, h1 => by
    have ih := chain_lt h d a h0 (by omega)
    have := h (a + d + 1 + 1) (by omega) (by omega)
    rw [show a + (d : Int) + 1 + 1 - 1 = a + d + 1 from by omega] at this
    rw [show a + ((d + 1 : Nat) : Int) + 1 = a + d + 1 + 1 from by omega]
    exact lt_trans26 ih this
theorem srt_iff (l : List S26) : (∀ j, 0 < j → j < (l.length : Int) → Lt26 (rd_T26 l (j - 1)) (rd_T26 l j)) ↔ Srt l := by
  constructor
  · intro h
    refine List.pairwise_iff_getElem.2 (fun i j hi hj hij => ?_)
    have := chain_lt h (j - i - 1) (i : Int) (by omega) (by omega)
    rwa [show (i : Int) + ((j - i - 1 : Nat) : Int) + 1 = (j : Int) from by omega, rd26_get hi, rd26_get hj] at this
  · intro h j h0 h1
    obtain ⟨n, rfl⟩ : ∃ n : Nat, j = (n : Int) := ⟨j.toNat, by omega⟩
    have := List.pairwise_iff_getElem.1 h (n - 1) n (by omega) (by omega) (by omega)
    rwa [show (n : Int) - 1 = ((n - 1 : Nat) : Int) from by omega, rd26_get (by omega), rd26_get (by omega)]
theorem check_loop (r : Int) (l : List S26) (hl : (l.length : Int) ≤ 64) : ∀ i, 0 ≤ i → i ≤ (l.length : Int) →
    ∃ e : Int × Int, Ev (fun k => tariff_Check.l0 k l (l.length : Int) i r l) e ∧ Ev (fun k => spileref46_Check.l0 k i r l) e ∧
      (e.2 = 0 ↔ ∀ j, i ≤ j → j < (l.length : Int) → Rng (rd_T26 l j) ∧ (0 < j → Lt26 (rd_T26 l (j - 1)) (rd_T26 l j))) ∧ (e.2 = 0 → e.1 = -1) := by
  refine count_up 0 (l.length : Int) _ ?_ ?_
  · exact ⟨(-1, 0), Ev.step (fun k => tariff_Check.l0.eq_2 ..) (evn (by omega) (Ev.now _)), Ev.step (fun k => spileref46_Check.l0.eq_2 ..) (evn (by omega) (Ev.now _)), ⟨fun _ j a b => by omega, fun _ => rfl⟩, fun _ => rfl⟩
  · intro i h0 h1 ih
    have hw := w64_succ h0 h1 (by omega)
    have re := ranged_eq (rd_T26 l i).f0 (rd_T26 l i).f1 (rd_T26 l i).f2
    have rr := refright_eq (rd_T26 l i).f0 (rd_T26 l i).f1 (rd_T26 l i).f2
    have e26 : (⟨(rd_T26 l i).f0, (rd_T26 l i).f1, (rd_T26 l i).f2⟩ : S26) = rd_T26 l i := rfl
    rw [e26] at re rr
    by_cases c1 : Rng (rd_T26 l i)
    case neg =>
      rw [decide_eq_false c1] at re rr
      exact ⟨(i, 2), Ev.step (fun k => tariff_Check.l0.eq_2 ..) (evp h1 (evp h0 (evp h1 (evb (evc (fun _ => rfl) re) (evn (by simp) (Ev.now _)))))), Ev.step (fun k => spileref46_Check.l0.eq_2 ..) (evp h1 (evp h0 (evb (evc (fun _ => rfl) rr) (evn (by simp) (Ev.now _))))),
        ⟨fun q => by simp at q, fun q => absurd (q i (by omega) h1).1 c1⟩, fun q => by simp at q⟩
    rw [decide_eq_true c1] at re rr
    obtain ⟨e, e1, e2, e3, e4⟩ := ih
    have ext : (0 < i → Lt26 (rd_T26 l (i - 1)) (rd_T26 l i)) → ((∀ j, i + 1 ≤ j → j < (l.length : Int) → Rng (rd_T26 l j) ∧ (0 < j → Lt26 (rd_T26 l (j - 1)) (rd_T26 l j))) ↔ ∀ j, i ≤ j → j < (l.length : Int) → Rng (rd_T26 l j) ∧ (0 < j → Lt26 (rd_T26 l (j - 1)) (rd_T26 l j))) := fun hh =>
      ⟨fun q j a b => by
        by_cases e : j = i
        · rw [e]; exact ⟨c1, hh⟩
        · exact q j (by omega) b, fun q j a b => q j (by omega) b⟩
    by_cases c2 : i > 0
    · have hp := w64_pred (i := i) (n := (l.length : Int)) h0 (by omega) (by omega)
      obtain ⟨v, v1, v2, v3⟩ := compare_ev (rd_T26 l (i - 1)) (rd_T26 l i)
      have hb := before_eq (rd_T26 l (i - 1)) (rd_T26 l i)
      by_cases c3 : Lt26 (rd_T26 l (i - 1)) (rd_T26 l i)
      · rw [decide_eq_true c3] at hb
        have v4 := v2.2 c3
        refine ⟨e, Ev.step (fun k => tariff_Check.l0.eq_2 ..) (evp h1 (evp h0 (evp h1 (evb (evc (fun _ => rfl) re) (evp rfl (evp c2 ?_)))))), Ev.step (fun k => spileref46_Check.l0.eq_2 ..) (evp h1 (evp h0 (evb (evc (fun _ => rfl) rr) (evp rfl (evp c2 ?_))))), e3.trans (ext (fun _ => c3)), e4⟩
        · rw [hp, hw]; exact evp (by omega) (evp (by omega) (evb v1 (evn (by omega) e1)))
        · rw [hp, hw]; exact evp (by omega) (evp (by omega) (evb (evc (fun _ => rfl) hb) (evp rfl e2)))
      · rw [decide_eq_false c3] at hb
        have v4 : v ≥ 0 := by
          by_cases q : v < 0
          · exact absurd (v2.1 q) c3
          · omega
        refine ⟨(i, 5), Ev.step (fun k => tariff_Check.l0.eq_2 ..) (evp h1 (evp h0 (evp h1 (evb (evc (fun _ => rfl) re) (evp rfl (evp c2 ?_)))))), Ev.step (fun k => spileref46_Check.l0.eq_2 ..) (evp h1 (evp h0 (evb (evc (fun _ => rfl) rr) (evp rfl (evp c2 ?_))))), ⟨fun q => by simp at q, fun q => absurd ((q i (by omega) h1).2 c2) c3⟩, fun q => by simp at q⟩
        · rw [hp]; exact evp (by omega) (evp (by omega) (evb v1 (evp v4 (Ev.now _))))
        · rw [hp]; exact evp (by omega) (evp (by omega) (evb (evc (fun _ => rfl) hb) (evn (by simp) (Ev.now _))))
    · refine ⟨e, Ev.step (fun k => tariff_Check.l0.eq_2 ..) (evp h1 (evp h0 (evp h1 (evb (evc (fun _ => rfl) re) (evp rfl (evn c2 ?_)))))), Ev.step (fun k => spileref46_Check.l0.eq_2 ..) (evp h1 (evp h0 (evb (evc (fun _ => rfl) rr) (evp rfl (evn c2 ?_))))), e3.trans (ext (fun q => absurd q c2)), e4⟩
      · rw [hw]; exact e1
      · rw [hw]; exact e2
theorem check_both (r : Int) (l : List S26) : ∃ e : Int × Int, Ev (fun k => tariff_Check.f k r l) e ∧ Ev (fun k => spileref46_Check.f k r l) e ∧ (e.2 = 0 ↔ OKT r l) ∧ (e.2 = 0 → e.1 = -1) := by
  have two : ∀ b : Bool, b = true → Ev (fun k => spileref46_Check.j0 k b r l) (-1, 2) := fun b hb => Ev.step (fun k => spileref46_Check.j0.eq_2 ..) (evp hb (Ev.now _))
  have w := within_eq r 1 4
  by_cases c0 : 1 ≤ r ∧ r ≤ 4
  case neg =>
    rw [decide_eq_false c0] at w
    refine ⟨(-1, 2), evb (evc (fun _ => rfl) w) (evn (by simp) (Ev.now _)), ?_, ⟨fun q => by simp at q, fun q => absurd q.1 c0⟩, fun _ => rfl⟩
    by_cases c1 : r < 1
    · exact evp c1 (two _ rfl)
    · exact evn c1 (two _ (decide_eq_true (by omega)))
  rw [decide_eq_true c0] at w
  have pre : ∀ e, Ev (fun k => if (l.length : Int) > 64 then (some ((-1), 8)) else (spileref46_Check.l0 k 0 r l)) e → Ev (fun k => spileref46_Check.f k r l) e := fun e he => by
    refine evn (by omega) ?_
    rw [decide_eq_false (show ¬ r > 4 by omega)]
    exact Ev.step (fun k => spileref46_Check.j0.eq_2 ..) (evn (by simp) he)
  by_cases c2 : (l.length : Int) > 64
  · exact ⟨(-1, 8), evb (evc (fun _ => rfl) w) (evp rfl (evp c2 (Ev.now _))), pre _ (evp c2 (Ev.now _)), ⟨fun q => by simp at q, fun q => absurd q.2.1 (by omega)⟩, fun _ => rfl⟩
  · obtain ⟨e, e1, e2, e3, e4⟩ := check_loop r l (by omega) 0 (by omega) (by omega)
    refine ⟨e, evb (evc (fun _ => rfl) w) (evp rfl (evn c2 e1)), pre _ (evn c2 e2), e3.trans ⟨fun q => ⟨c0, by omega, fun x hx => ?_, (srt_iff l).1 (fun j a b => (q j (by omega) b).2 a)⟩, fun q j a b => ⟨q.2.2.1 _ (rd26_mem a b), fun p => (srt_iff l).2 q.2.2.2 j p b⟩⟩, e4⟩
    obtain ⟨i, i0, i1, rfl⟩ := rd26_of_mem hx
    exact (q i i0 i1).1
theorem right_B (r : Int) (l : List S26) : EvB (fun k => tariff_right.f k r l) (OKT r l) := by
  obtain ⟨e, e1, _, e3, _⟩ := check_both r l
  refine ⟨fun h => evb e1 (evr (beq_iff_eq.2 (e3.2 h))), fun h => evb e1 (evr ?_)⟩
  rw [beq_eq_false_iff_ne]
  exact fun q => h (e3.1 q)
theorem Right_B (r : Int) (l : List S26) : EvB (fun k => spileref46_Right.f k r l) (OKT r l) := by
  obtain ⟨e, _, e1, e3, _⟩ := check_both r l
  refine ⟨fun h => evb e1 (evr (beq_iff_eq.2 (e3.2 h))), fun h => evb e1 (evr ?_)⟩
  rw [beq_eq_false_iff_ne]
  exact fun q => h (e3.1 q)
theorem same_self (r : Int) (l : List S26) (hl : (l.length : Int) ≤ 9223372036854775807) : Ev (fun k => spileref46_Same.f k r l r l) true := by
  refine evp rfl ?_
  rw [show ((l.length : Int) != (l.length : Int)) = false from bne_self_eq_false _]
  refine Ev.step (fun k => spileref46_Same.j0.eq_2 ..) (evn (by simp) ?_)
  refine count_up 0 (l.length : Int) (fun i => Ev (fun k => spileref46_Same.l0 k i r l r l) true) ?_ ?_ 0 (Int.le_refl _) (by omega)
  · exact Ev.step (fun k => spileref46_Same.l0.eq_2 ..) (evn (by omega) (Ev.now _))
  · intro i h0 h1 ih
    refine Ev.step (fun k => spileref46_Same.l0.eq_2 ..) (evp h1 (evp h0 (evp h1 (evn (by simp) ?_))))
    rw [w64_succ h0 h1 hl]
    exact ih
theorem clone_eq {l : List S26} (h : (l.length : Int) ≤ 65) : slices_Clone26.f l = some l := by
  unfold slices_Clone26.f
  rw [if_pos (by omega)]
theorem cp_eq {r : Int} {l : List S26} (h : (l.length : Int) ≤ 65) : spilelaw46_cp.f r l = some (r, l) := by
  unfold spilelaw46_cp.f
  rw [clone_eq h]
  rfl
theorem few_eq (r : Int) (l : List S26) : ∃ b, spileref46_Few.f r l = some b ∧ (b = true → (l.length : Int) ≤ 65) := by
  unfold spileref46_Few.f
  by_cases c : (l.length : Int) ≤ 20
  · exact ⟨true, if_pos c, fun _ => by omega⟩
  · refine ⟨(l.length : Int) == 65, if_neg c, fun q => ?_⟩
    have := beq_iff_eq.1 q
    omega
end Go.Proofs.YtholbmidciapdaaGreatDoor.PL
namespace Go.Proofs.YtholbmidciapdaaGreatDoor.PL
/-- Whether a quotient is rounded up. -/
def Up (rule q r : Int) : Prop := (rule = 2 ∧ r > 0) ∨ (rule = 3 ∧ 2 * r ≥ 10000000) ∨ (rule = 4 ∧ (2 * r > 10000000 ∨ (2 * r = 10000000 ∧ q % 2 = 1)))
instance (rule q r : Int) : Decidable (Up rule q r) := by unfold Up; infer_instance
end Go.Proofs.YtholbmidciapdaaGreatDoor.PL
namespace Go.Proofs.YtholbmidciapdaaGreatDoor.PL
open Go Go.RowKit Go.Proofs.YtholbmidciapdaaGreatDoorW.PrintWords Go.Proofs.YtholbmidciapdaaGreatDoorW.PrintLast Go.Proofs.YtholbmidciapdaaGreatDoorW.PrintMore Go.Proofs.YtholbmidciapdaaGreatDoor.Pr Go.Proofs.YtholbmidciapdaaGreatDoor.X
instance (R : Int) (l : List S26) : Decidable (OKT R l) := by unfold OKT; infer_instance
def s0 : S26 × Bool := (⟨0, 0, 0⟩, false)
def InR (c d : Int) : Prop := (1 ≤ c ∧ c ≤ 9) ∧ 0 ≤ d ∧ d ≤ 100000
instance (c d : Int) : Decidable (InR c d) := by unfold InR; infer_instance
def InS (c a b : Int) : Prop := (1 ≤ c ∧ c ≤ 9) ∧ (0 ≤ a ∧ a ≤ 100000) ∧ a ≤ b ∧ b ≤ 100000
instance (c a b : Int) : Decidable (InS c a b) := by unfold InS; infer_instance
def InD (c a b : Int) (x : S26) : Prop := x.f0 = c ∧ a ≤ x.f1 ∧ x.f1 ≤ b
instance (c a b : Int) (x : S26) : Decidable (InD c a b x) := by unfold InD; infer_instance
end Go.Proofs.YtholbmidciapdaaGreatDoor.PL
namespace Go.Proofs.YtholbmidciapdaaGreatDoor.PL
open Go Go.RowKit Go.Proofs.YtholbmidciapdaaGreatDoorW.PrintWords Go.Proofs.YtholbmidciapdaaGreatDoorW.PrintLast Go.Proofs.YtholbmidciapdaaGreatDoorW.PrintMore Go.Proofs.YtholbmidciapdaaGreatDoor.Pr Go.Proofs.YtholbmidciapdaaGreatDoor.TX Go.Proofs.YtholbmidciapdaaGreatDoor.X
theorem numR_bad {b : List UInt8} (h : ¬ (Canon b ∧ b.length ≤ 9)) : numR 9 b = (0, false) := by unfold numR numP; rw [if_neg h]
theorem numR_ok {b : List UInt8} (h : Canon b ∧ b.length ≤ 9) : numR 9 b = (((valFrom 0 b : Nat) : Int), true) := by unfold numR numP; rw [if_pos h]
theorem numR_none {b : List UInt8} (h : numP 9 b = none) : numR 9 b = (0, false) := by unfold numR; rw [h]
theorem numR_some {b : List UInt8} {v : Nat} (h : numP 9 b = some v) : numR 9 b = ((v : Int), true) := by unfold numR; rw [h]
def digs : List UInt8 := [48, 49, 50, 51, 52, 53, 54, 55, 56, 57]
theorem digs_isDig (b : UInt8) : digs.contains b = isDig b := by
  rw [Bool.eq_iff_iff]
  constructor
  · intro h
    simp [digs] at h
    rcases h with rfl | rfl | rfl | rfl | rfl | rfl | rfl | rfl | rfl | rfl <;> rfl
  · intro h
    have hb := (isDig_iff b).1 h
    have e : b = UInt8.ofNat b.toNat := by simp
    rw [e]
    have q : b.toNat = 48 ∨ b.toNat = 49 ∨ b.toNat = 50 ∨ b.toNat = 51 ∨ b.toNat = 52 ∨ b.toNat = 53 ∨ b.toNat = 54 ∨ b.toNat = 55 ∨ b.toNat = 56 ∨ b.toNat = 57 := by omega
    rcases q with q | q | q | q | q | q | q | q | q | q <;> rw [q] <;> rfl
theorem drop_idem {α : Type} (p : α → Bool) : ∀ l : List α, (l.dropWhile p).dropWhile p = l.dropWhile p
  | [] => rfl
  | x :: r => by
    by_cases h : p x = true
    · simp only [List.dropWhile_cons, h, if_true]; exact drop_idem p r
    · simp only [List.dropWhile_cons, h]; simp [List.dropWhile_cons, h]
theorem drop_all {α : Type} (p : α → Bool) : ∀ l : List α, l.dropWhile p = [] ↔ l.all p = true
  | [] => by simp
  | x :: r => by
    by_cases h : p x = true
    · simp only [List.dropWhile_cons, h, if_true, List.all_cons, Bool.true_and]; exact drop_all p r
    · simp [List.dropWhile_cons, h]
theorem trim_all (b : List UInt8) : Lib.trimS b digs = [] ↔ b.all isDig = true := by
  have e : (fun x => digs.contains x) = isDig := funext digs_isDig
  unfold Lib.trimS Lib.trimLeftS Lib.trimRightS
  rw [e]
  constructor
  · intro h
    have h1 := (drop_all isDig _).1 h
    rw [List.all_reverse] at h1
    have h2 := (drop_all isDig _).2 h1
    rw [drop_idem] at h2
    have := (drop_all isDig _).1 h2
    rwa [List.all_reverse] at this
  · intro h
    have h1 : b.reverse.dropWhile isDig = [] := (drop_all isDig _).2 (by rw [List.all_reverse]; exact h)
    rw [h1]
    rfl
theorem trim_eq {b : List UInt8} (h : b.length ≤ 9) : ∃ t, strings_Trim.f (ba b) (⟨#[48, 49, 50, 51, 52, 53, 54, 55, 56, 57]⟩ : ByteArray) = some t ∧ (t.toList = ([] : List UInt8) ↔ b.all isDig = true) := by
  refine ⟨ba (Lib.trimS b digs), ?_, ?_⟩
  · unfold strings_Trim.f
    rw [if_pos ⟨by rw [ba_size]; omega, by decide, by decide⟩]
    rfl
  · rw [ba_toList]; exact trim_all b
theorem atoi_canon {b : List UInt8} (h : Canon b) (hl : b.length ≤ 9) : strconv_Atoi.f (ba b) = some (((valFrom 0 b : Nat) : Int), none) := by
  have ha := atoi_of_canon h (by omega)
  unfold strconv_Atoi.f
  rw [if_pos (by rw [ba_size]; omega), ba_list, ha]
theorem number_eq (b : List UInt8) : tariff_number.f (ba b) = some (numR 9 b) := by
  unfold tariff_number.f
  rw [ba_toList, ba_size]
  by_cases c0 : b = []
  · rw [if_pos c0, numR_bad (fun h => by have := h.1.1; rw [c0] at this; simp at this)]
  rw [if_neg c0]
  by_cases c1 : (b.length : Int) > 9
  · rw [if_pos c1, numR_bad (fun h => by omega)]
  rw [if_neg c1]
  have h1 : 1 ≤ b.length := by
    cases b with
    | nil => exact absurd rfl c0
    | cons x r => simp
  obtain ⟨t, t1, t2⟩ := trim_eq (b := b) (by omega)
  have tail : ¬ (1 < b.length ∧ b.head? = some 48) → ((strings_Trim.f (ba b) (⟨#[48, 49, 50, 51, 52, 53, 54, 55, 56, 57]⟩ : ByteArray)).bind fun t189 => (if t189.toList = ([] : List UInt8) then ((strconv_Atoi.f (ba b)).bind fun bt190 => (if bt190.2.isNone = true then (some (bt190.1, true)) else (some (bt190.1, false)))) else (some (0, false)))) = some (numR 9 b) := by
    intro hh
    rw [t1]
    show (if t.toList = ([] : List UInt8) then _ else _) = _
    by_cases d : b.all isDig = true
    · have hc : Canon b := ⟨h1, hh, d⟩
      rw [if_pos (t2.2 d), atoi_canon hc (by omega), numR_ok ⟨hc, by omega⟩]
      rfl
    · rw [if_neg (fun q => d (t2.1 q)), numR_bad (fun h => d h.1.2.2)]
  by_cases c2 : (b.length : Int) > 1
  · obtain ⟨c, e1, _, e3⟩ := byte_at (ba b) (i := 0) (by omega) (by rw [ba_size]; omega)
    rw [show (0 : Int).toNat = 0 from rfl, List.drop_zero, ba_list] at e1
    rw [if_pos c2, if_pos (by omega), e3]
    by_cases c3 : c = 48
    · rw [if_pos (show (c.toNat : Int) = 48 from (toNat_eq c 48 (by decide)).2 c3), numR_bad (fun h => h.1.2.1 ⟨by omega, by rw [e1]; simp [c3]⟩)]
    · rw [if_neg (show ¬ (c.toNat : Int) = 48 from fun q => c3 ((toNat_eq c 48 (by decide)).1 q))]
      exact tail (fun h => c3 (by have := h.2; rw [e1] at this; simpa using this))
  · rw [if_neg c2]
    exact tail (fun h => by omega)
theorem step_val (n : Nat) (b : UInt8) (hd : isDig b = true) (hn : n ≤ 10000000000) : wrap64 ((wrap64 (10 * (n : Int))) + (((b.toNat : Int) - 48) % 256)) = ((10 * n + (b.toNat - 48) : Nat) : Int) := by
  have h := (isDig_iff b).1 hd
  rw [w64 (x := 10 * (n : Int)) (by omega) (by omega), w64 (by omega) (by omega)]
  omega
theorem read_loop (s : ByteArray) (hs : (s.size : Int) ≤ 9) : ∀ i, 0 ≤ i → i ≤ (s.size : Int) → ∀ n : Nat, n + 1 ≤ 10 ^ i.toNat →
    Ev (fun k => spileref46_Read.l0 k s (n : Int) i) (if (s.data.toList.drop i.toNat).all isDig = true then (((valFrom n (s.data.toList.drop i.toNat) : Nat) : Int), true) else (0, false)) := by
  refine count_up 0 (s.size : Int) _ ?_ ?_
  · intro n hn
    rw [drop_end]
    exact Ev.step (fun k => spileref46_Read.l0.eq_2 ..) (evn (by omega) (evr (by rw [if_pos (show ([] : List UInt8).all isDig = true from rfl)]; rfl)))
  · intro i h0 h1 ih n hn
    obtain ⟨b, e1, _, e3⟩ := byte_at s h0 h1
    have hw : wrap64 (i + 1) = i + 1 := w64 (by omega) (by omega)
    have hp : 10 ^ i.toNat ≤ 10 ^ 9 := Nat.pow_le_pow_right (by decide) (by omega)
    refine Ev.step (fun k => spileref46_Read.l0.eq_2 ..) (evp h1 (evp h0 ?_))
    rw [e3, e1, hw]
    by_cases d1 : (b.toNat : Int) < 48
    · have hd : ¬ isDig b = true := fun h => by have := (isDig_iff b).1 h; omega
      rw [if_neg (by rw [List.all_cons, Bool.and_eq_true]; exact fun h => hd h.1)]
      exact evp d1 (Ev.now _)
    by_cases d2 : (b.toNat : Int) > 57
    · have hd : ¬ isDig b = true := fun h => by have := (isDig_iff b).1 h; omega
      rw [if_neg (by rw [List.all_cons, Bool.and_eq_true]; exact fun h => hd h.1)]
      exact evn d1 (evp d2 (Ev.now _))
    have hd : isDig b = true := (isDig_iff b).2 (by omega)
    rw [step_val n b hd (by omega)]
    have q := ih (10 * n + (b.toNat - 48)) (by
      rw [show (i + 1).toNat = i.toNat + 1 from by omega, Nat.pow_succ]; omega)
    have ea : ((b :: s.data.toList.drop (i + 1).toNat).all isDig = true) = ((s.data.toList.drop (i + 1).toNat).all isDig = true) := by
      rw [List.all_cons, hd, Bool.true_and]
    simp only [ea]
    exact evn d1 (evn d2 q)
theorem read_ev (b : List UInt8) : Ev (fun k => spileref46_Read.f k (ba b)) (numR 9 b) := by
  have hsz : (ba b).size = b.length := rfl
  have bad : ∀ t, t = true → Ev (fun k => spileref46_Read.j0 k (ba b) t) (0, false) := fun t ht => Ev.step (fun k => spileref46_Read.j0.eq_2 ..) (evp ht (Ev.now _))
  by_cases c1 : ((ba b).size : Int) = 0
  · rw [numR_bad (fun h => by have := h.1.1; omega)]
    exact evp c1 (bad _ rfl)
  by_cases c2 : ((ba b).size : Int) > 9
  · rw [numR_bad (fun h => by have := h.2; omega)]
    exact evn c1 (evp c2 (bad _ rfl))
  have go : ¬ (1 < b.length ∧ b.head? = some 48) → Ev (fun k => spileref46_Read.j0 k (ba b) false) (numR 9 b) := by
    intro hh
    have q := read_loop (ba b) (by omega) 0 (by omega) (by omega) 0 (by decide)
    rw [show (0 : Int).toNat = 0 from rfl, List.drop_zero, ba_list] at q
    refine Ev.step (fun k => spileref46_Read.j0.eq_2 ..) (evn (by simp) ?_)
    by_cases hd : b.all isDig = true
    · rw [if_pos hd] at q
      rw [numR_ok ⟨⟨by omega, hh, hd⟩, by omega⟩]
      exact q
    · rw [if_neg hd] at q
      rw [numR_bad (fun h => hd h.1.2.2)]
      exact q
  by_cases c3 : ((ba b).size : Int) > 1
  · obtain ⟨c, e1, _, e3⟩ := byte_at (ba b) (i := 0) (by omega) (by omega)
    rw [show (0 : Int).toNat = 0 from rfl, List.drop_zero, ba_list] at e1
    refine evn c1 (evn c2 (evp c3 (evp (by omega) ?_)))
    rw [e3]
    by_cases c4 : c = 48
    · have e4 : ((c.toNat : Int) == 48) = true := by rw [beq_iff_eq]; exact (toNat_eq c 48 (by decide)).2 c4
      rw [e4, numR_bad (fun h => h.1.2.1 ⟨by omega, by rw [e1]; simp [c4]⟩)]
      exact bad _ rfl
    · have e4 : ((c.toNat : Int) == 48) = false := by rw [beq_eq_false_iff_ne]; exact fun h => c4 ((toNat_eq c 48 (by decide)).1 h)
      rw [e4]
      exact go (fun h => c4 (by have := h.2; rw [e1] at this; simpa using this))
  · exact evn c1 (evn c2 (evn c3 (go (fun h => by omega))))
def cls : List UInt8 := [99, 108, 97, 115, 115]
def frm : List UInt8 := [102, 114, 111, 109]
def atw : List UInt8 := [97, 116]
def numW (a b c : List UInt8) : Option S26 := match numP 9 a with
  | none => none
  | some x => match numP 9 b with
    | none => none
    | some y => match numP 9 c with
      | none => none
      | some z => some ⟨(x : Int), (y : Int), (z : Int)⟩
def lineW : List (List UInt8) → Option S26
  | [w0, w1, w2, w3, w4, w5] => if w0 = cls ∧ w2 = frm ∧ w4 = atw then numW w1 w3 w5 else none
  | _ => none
def lineL (l : List UInt8) : Option S26 := lineW (parts 32 l)
theorem six {α : Type} {l : List α} (h : l.length = 6) : ∃ a b c d e f, l = [a, b, c, d, e, f] := by
  match l, h with
  | [a, b, c, d, e, f], _ => exact ⟨a, b, c, d, e, f, rfl⟩
theorem lineW_len {w : List (List UInt8)} (h : ¬ w.length = 6) : lineW w = none := by
  unfold lineW
  split
  · exact absurd rfl h
  · rfl
def rateR (p : Int × Int × Int × Bool) : Option S26 → Prop
  | some x => p = (x.f0, x.f1, x.f2, true)
  | none => p.2.2.2 = false
theorem rate_ev (l : List UInt8) (hl : l.length ≤ 100000) : ∃ p, Ev (fun k => tariff_rate.f k (ba l)) p ∧ rateR p (lineL l) := by
  have hsp := split_ev (ba l) (by rw [ba_size]; omega)
  rw [ba_list] at hsp
  unfold lineL
  have pre : ∀ p, Ev (fun k => (if (((parts 32 l).map ba).length : Int) = 6 then (if 0 < (((parts 32 l).map ba).length : Int) then (if (rdOf ByteArray.empty ((parts 32 l).map ba) 0).toList = ([99, 108, 97, 115, 115] : List UInt8) then (if 2 < (((parts 32 l).map ba).length : Int) then (if (rdOf ByteArray.empty ((parts 32 l).map ba) 2).toList = ([102, 114, 111, 109] : List UInt8) then (if 4 < (((parts 32 l).map ba).length : Int) then (tariff_rate.j0 k ((parts 32 l).map ba) ((rdOf ByteArray.empty ((parts 32 l).map ba) 4).toList != ([97, 116] : List UInt8))) else (none)) else (tariff_rate.j0 k ((parts 32 l).map ba) true)) else (none)) else (tariff_rate.j0 k ((parts 32 l).map ba) true)) else (none)) else (tariff_rate.j0 k ((parts 32 l).map ba) true))) p → Ev (fun k => tariff_rate.f k (ba l)) p := fun p hp => evb (evc (fun _ => rfl) hsp) hp
  have bad : ∀ (w : List ByteArray) (t : Bool), t = true → Ev (fun k => tariff_rate.j0 k w t) (0, 0, 0, false) := fun w t ht => Ev.step (fun k => tariff_rate.j0.eq_2 ..) (evp ht (Ev.now _))
  by_cases h6 : (parts 32 l).length = 6
  case neg =>
    rw [lineW_len h6]
    exact ⟨_, pre _ (evn (by rw [List.length_map]; omega) (bad _ _ rfl)), rfl⟩
  obtain ⟨w0, w1, w2, w3, w4, w5, hw⟩ := six h6
  rw [hw] at pre ⊢
  have e0 : (rdOf ByteArray.empty ([w0, w1, w2, w3, w4, w5].map ba) 0).toList = w0 := ba_toList w0
  have e2 : (rdOf ByteArray.empty ([w0, w1, w2, w3, w4, w5].map ba) 2).toList = w2 := ba_toList w2
  have e4 : (rdOf ByteArray.empty ([w0, w1, w2, w3, w4, w5].map ba) 4).toList = w4 := ba_toList w4
  rw [e0, e2, e4] at pre
  show ∃ p, _ ∧ rateR p (if w0 = cls ∧ w2 = frm ∧ w4 = atw then numW w1 w3 w5 else none)
  by_cases c0 : w0 = cls
  case neg =>
    rw [if_neg (fun h => c0 h.1)]
    exact ⟨_, pre _ (evp rfl (evp (by simp) (evn c0 (bad _ _ rfl)))), rfl⟩
  by_cases c2 : w2 = frm
  case neg =>
    rw [if_neg (fun h => c2 h.2.1)]
    exact ⟨_, pre _ (evp rfl (evp (by simp) (evp c0 (evp (by simp) (evn c2 (bad _ _ rfl)))))), rfl⟩
  by_cases c4 : w4 = atw
  case neg =>
    rw [if_neg (fun h => c4 h.2.2)]
    exact ⟨_, pre _ (evp rfl (evp (by simp) (evp c0 (evp (by simp) (evp c2 (evp (by simp) (bad _ _ (bne_iff_ne.2 c4)))))))), rfl⟩
  rw [if_pos ⟨c0, c2, c4⟩]
  have n1 : tariff_number.f (rdOf ByteArray.empty ([w0, w1, w2, w3, w4, w5].map ba) 1) = some (numR 9 w1) := number_eq w1
  have n3 : tariff_number.f (rdOf ByteArray.empty ([w0, w1, w2, w3, w4, w5].map ba) 3) = some (numR 9 w3) := number_eq w3
  have n5 : tariff_number.f (rdOf ByteArray.empty ([w0, w1, w2, w3, w4, w5].map ba) 5) = some (numR 9 w5) := number_eq w5
  have ef : (w4 != ([97, 116] : List UInt8)) = false := by rw [bne_eq_false_iff_eq]; exact c4
  rw [ef] at pre
  have go : ∀ p, Ev (fun k => if (numR 9 w1).2 = true then (if (numR 9 w3).2 = true then (some ((numR 9 w1).1, (numR 9 w3).1, (numR 9 w5).1, (numR 9 w5).2)) else (some ((numR 9 w1).1, (numR 9 w3).1, (numR 9 w5).1, false))) else (some ((numR 9 w1).1, (numR 9 w3).1, (numR 9 w5).1, false))) p → Ev (fun k => tariff_rate.f k (ba l)) p := fun p hp =>
    pre _ (evp rfl (evp (by simp) (evp c0 (evp (by simp) (evp c2 (evp (by simp) (Ev.step (fun k => tariff_rate.j0.eq_2 ..) (evn (by simp) (evp (by simp) (evb (evc (fun _ => rfl) n1) (evp (by simp) (evb (evc (fun _ => rfl) n3) (evp (by simp) (evb (evc (fun _ => rfl) n5) hp))))))))))))))
  unfold numW
  cases h1 : numP 9 w1 with
  | none => rw [numR_none h1] at go; exact ⟨_, go _ (evn (by simp) (Ev.now _)), rfl⟩
  | some x =>
    rw [numR_some h1] at go
    cases h3 : numP 9 w3 with
    | none => rw [numR_none h3] at go; exact ⟨_, go _ (evp rfl (evn (by simp) (Ev.now _))), rfl⟩
    | some y =>
      rw [numR_some h3] at go
      cases h5 : numP 9 w5 with
      | none => rw [numR_none h5] at go; exact ⟨_, go _ (evp rfl (evp rfl (Ev.now _))), rfl⟩
      | some z => rw [numR_some h5] at go; exact ⟨_, go _ (evp rfl (evp rfl (Ev.now _))), rfl⟩
theorem rate_line (l : List UInt8) (f : Bool) (hl : l.length ≤ 100000) : Ev (fun k => tariff_Parse.rate k (ba l, f)) (if f = true then lineL l else none) := by
  obtain ⟨p, p1, p2⟩ := rate_ev l hl
  refine evb p1 ?_
  cases f with
  | false => exact evn (by simp) (evr rfl)
  | true =>
    rw [if_pos rfl]
    cases hx : lineL l with
    | none => rw [hx] at p2; exact evn (fun h => by rw [show p.2.2.2 = false from p2] at h; cases h.1) (Ev.now _)
    | some x =>
      rw [hx] at p2
      obtain rfl : p = (x.f0, x.f1, x.f2, true) := p2
      exact evp (by simp) (Ev.now _)
def hdw : List UInt8 := [114, 111, 117, 110, 100, 105, 110, 103]
def wrdL (n : Nat) : List UInt8 := if n = 1 then [100, 111, 119, 110] else if n = 2 then [117, 112] else if n = 3 then [104, 97, 108, 102, 45, 117, 112] else [104, 97, 108, 102, 45, 101, 118, 101, 110]
def hd (n : Nat) : List UInt8 := hdw ++ 32 :: wrdL n
def wIdx (w : List UInt8) : Option Int := if w = wrdL 1 then some 1 else if w = wrdL 2 then some 2 else if w = wrdL 3 then some 3 else if w = wrdL 4 then some 4 else none
def headW : List (List UInt8) → Option Int
  | [w0, w1] => if w0 = hdw then wIdx w1 else none
  | _ => none
def headL (l : List UInt8) : Option Int := headW (parts 32 l)
theorem two {α : Type} {l : List α} (h : l.length = 2) : ∃ a b, l = [a, b] := by
  match l, h with
  | [a, b], _ => exact ⟨a, b, rfl⟩
theorem headW_len {w : List (List UInt8)} (h : ¬ w.length = 2) : headW w = none := by
  unfold headW
  split
  · exact absurd rfl h
  · rfl
theorem wIdx_no {w : List UInt8} {R : Int} (h : wIdx w = some R) : (32 : UInt8) ∉ w ∧ (10 : UInt8) ∉ w := by
  unfold wIdx at h
  split at h
  · rename_i e; rw [e]; decide
  split at h
  · rename_i e; rw [e]; decide
  split at h
  · rename_i e; rw [e]; decide
  split at h
  · rename_i e; rw [e]; decide
  · cases h
theorem wIdx_rng {w : List UInt8} {R : Int} (h : wIdx w = some R) : 1 ≤ R ∧ R ≤ 4 ∧ w = wrdL R.toNat := by
  unfold wIdx at h
  split at h
  · obtain rfl := Option.some.inj h; exact ⟨by omega, by omega, by assumption⟩
  split at h
  · obtain rfl := Option.some.inj h; exact ⟨by omega, by omega, by assumption⟩
  split at h
  · obtain rfl := Option.some.inj h; exact ⟨by omega, by omega, by assumption⟩
  split at h
  · obtain rfl := Option.some.inj h; exact ⟨by omega, by omega, by assumption⟩
  · cases h
theorem headL_pre (r : List UInt8) : headL (hdw ++ 32 :: r) = wIdx r := by
  unfold headL
  rw [parts_app 32 hdw r (by decide)]
  by_cases h : (32 : UInt8) ∈ r
  · have hn : wIdx r = none := by
      cases e : wIdx r with
      | none => rfl
      | some R => exact absurd h (wIdx_no e).1
    rw [hn]
    refine headW_len (fun e => ?_)
    have e1 : (parts 32 r).length = 1 := by simpa using e
    rw [parts_cut] at e1
    have hc : (cut1 32 r).2.2 = true := by
      cases hc : (cut1 32 r).2.2 with
      | true => rfl
      | false =>
        have h1 := (cut1_no 32 r hc).1
        have h2 := cut1_mem 32 r
        rw [h1] at h2
        exact absurd h h2
    rw [if_pos hc] at e1
    have := parts_ne 32 (cut1 32 r).2.1
    simp at e1
    exact this e1
  · rw [parts_no 32 r h]
    show (if hdw = hdw then wIdx r else none) = _
    rw [if_pos rfl]
theorem headL_some {l : List UInt8} {R : Int} (h : headL l = some R) : 1 ≤ R ∧ R ≤ 4 ∧ l = hd R.toNat := by
  unfold headL at h
  by_cases h2 : (parts 32 l).length = 2
  case neg => rw [headW_len h2] at h; cases h
  obtain ⟨a, b, e⟩ := two h2
  have hg := glue_parts 32 l
  rw [e] at h hg
  simp only [headW] at h
  by_cases c : a = hdw
  · rw [if_pos c] at h
    obtain ⟨r1, r2, r3⟩ := wIdx_rng h
    refine ⟨r1, r2, ?_⟩
    rw [← hg, c, r3]
    rfl
  · rw [if_neg c] at h; cases h
theorem index_steps (w : List UInt8) : Ev (fun k => slices_Index_string_string.f k tariff_Parse.wordsB (ba w)) (if w = [] then 0 else match wIdx w with | none => -1 | some R => R) := by
  have hlen : (tariff_Parse.wordsB.length : Int) = 5 := rfl
  have r0 : (rdOf ByteArray.empty tariff_Parse.wordsB 0).toList = [] := ba_toList []
  have r1 : (rdOf ByteArray.empty tariff_Parse.wordsB 1).toList = wrdL 1 := ba_toList (wrdL 1)
  have r2 : (rdOf ByteArray.empty tariff_Parse.wordsB 2).toList = wrdL 2 := ba_toList (wrdL 2)
  have r3 : (rdOf ByteArray.empty tariff_Parse.wordsB 3).toList = wrdL 3 := ba_toList (wrdL 3)
  have r4 : (rdOf ByteArray.empty tariff_Parse.wordsB 4).toList = wrdL 4 := ba_toList (wrdL 4)
  have w1 : wrap64 (0 + 1) = 1 := by unfold wrap64; omega
  have w2 : wrap64 (1 + 1) = 2 := by unfold wrap64; omega
  have w3 : wrap64 (2 + 1) = 3 := by unfold wrap64; omega
  have w4 : wrap64 (3 + 1) = 4 := by unfold wrap64; omega
  have w5 : wrap64 (4 + 1) = 5 := by unfold wrap64; omega
  show Ev (fun k => slices_Index_string_string.l0 k tariff_Parse.wordsB (ba w) 5 0) _
  refine Ev.step (fun k => slices_Index_string_string.l0.eq_2 ..) (evp (by omega) (evp (by omega) (evp (by omega) ?_)))
  rw [ba_toList, r0, w1]
  by_cases c0 : w = []
  · rw [if_pos c0]; exact evp c0 (Ev.now _)
  rw [if_neg c0]
  refine evn c0 (Ev.step (fun k => slices_Index_string_string.l0.eq_2 ..) (evp (by omega) (evp (by omega) (evp (by omega) ?_))))
  rw [ba_toList, r1, w2]
  unfold wIdx
  by_cases c1 : w = wrdL 1
  · rw [if_pos c1]; exact evp c1 (Ev.now _)
  rw [if_neg c1]
  refine evn c1 (Ev.step (fun k => slices_Index_string_string.l0.eq_2 ..) (evp (by omega) (evp (by omega) (evp (by omega) ?_))))
  rw [ba_toList, r2, w3]
  by_cases c2 : w = wrdL 2
  · rw [if_pos c2]; exact evp c2 (Ev.now _)
  rw [if_neg c2]
  refine evn c2 (Ev.step (fun k => slices_Index_string_string.l0.eq_2 ..) (evp (by omega) (evp (by omega) (evp (by omega) ?_))))
  rw [ba_toList, r3, w4]
  by_cases c3 : w = wrdL 3
  · rw [if_pos c3]; exact evp c3 (Ev.now _)
  rw [if_neg c3]
  refine evn c3 (Ev.step (fun k => slices_Index_string_string.l0.eq_2 ..) (evp (by omega) (evp (by omega) (evp (by omega) ?_))))
  rw [ba_toList, r4, w5]
  by_cases c4 : w = wrdL 4
  · rw [if_pos c4]; exact evp c4 (Ev.now _)
  rw [if_neg c4]
  exact evn c4 (Ev.step (fun k => slices_Index_string_string.l0.eq_2 ..) (evn (by omega) (Ev.now _)))
def pfx : List UInt8 := [114, 111, 117, 110, 100, 105, 110, 103, 32]
theorem prefix_eq (l : List UInt8) : strings_CutPrefix.f (ba l) ⟨#[114, 111, 117, 110, 100, 105, 110, 103, 32]⟩ = some (if l.take 9 = pfx then (ba (l.drop 9), true) else (ba l, false)) := by
  have hp : (⟨#[114, 111, 117, 110, 100, 105, 110, 103, 32]⟩ : ByteArray) = ba pfx := rfl
  have h9 : (ba pfx).size = 9 := rfl
  rw [hp]
  unfold strings_CutPrefix.f stringslite_CutPrefix.f stringslite_HasPrefix.f
  rw [h9]
  by_cases c : ((ba l).size : Int) ≥ ((9 : Nat) : Int)
  · rw [if_pos c, if_pos (by omega), if_pos (by omega)]
    have e1 : ((ba l).extract 0 ((9 : Nat) : Int).toNat).toList = l.take 9 := by
      rw [ba_ex, ba_list, ba_toList, List.drop_zero]; rfl
    have e2 : (ba l).extract ((9 : Nat) : Int).toNat (ba l).size = ba (l.drop 9) := by
      rw [ba_ex, ba_list, ba_size, List.take_length]; rfl
    rw [e1, e2, ba_toList]
    simp only [Option.bind_some]
    by_cases d : l.take 9 = pfx
    · rw [if_pos (beq_iff_eq.2 d), if_pos d, if_pos (by omega), if_pos (by omega)]; rfl
    · rw [if_neg (fun h => d (beq_iff_eq.1 h)), if_neg d]; rfl
  · rw [if_neg c]
    have hs : (ba l).size = l.length := rfl
    have d : ¬ l.take 9 = pfx := fun e => by
      have := congrArg List.length e
      rw [List.length_take] at this
      have h9' : pfx.length = 9 := rfl
      omega
    rw [if_neg d]
    rfl
theorem word_line (l : List UInt8) (f : Bool) : Ev (fun k => tariff_Parse.word k (ba l, f)) (if f = true then headL l else none) := by
  refine evb (evc (fun _ => rfl) (prefix_eq l)) ?_
  by_cases d : l.take 9 = pfx
  · rw [if_pos d]
    have e : l = hdw ++ 32 :: l.drop 9 := by
      have h := List.take_append_drop 9 l
      rw [d] at h
      exact h.symm
    have eh : headL l = wIdx (l.drop 9) := by
      have := headL_pre (l.drop 9)
      rwa [← e] at this
    rw [eh]
    refine evb (index_steps (l.drop 9)) ?_
    by_cases c0 : l.drop 9 = []
    · rw [if_pos c0]
      have hn : wIdx (l.drop 9) = none := by rw [c0]; rfl
      rw [hn, ite_self]
      exact evn (fun h => by have := h.2.1; omega) (Ev.now _)
    rw [if_neg c0]
    cases hx : wIdx (l.drop 9) with
    | none => rw [ite_self]; exact evn (fun h => by have := h.2.1; simp at this) (Ev.now _)
    | some R =>
      have hr := wIdx_rng hx
      cases f with
      | false => exact evn (by simp) (evr rfl)
      | true => exact evp ⟨rfl, hr.1, rfl⟩ (evr rfl)
  · rw [if_neg d]
    have hn : headL l = none := by
      cases hx : headL l with
      | none => rfl
      | some R =>
        have e := (headL_some hx).2.2
        exact absurd (by rw [e]; rfl) d
    rw [hn, ite_self]
    exact evb (index_steps l) (evn (by simp) (Ev.now _))
def valR (R : Int) (x : List S26 × Option Nat) : Int × List S26 × Int × Int := match x.2 with
  | none => if OKT R x.1 then (R, x.1, -1, 0) else (0, [], -1, 1)
  | some i => (0, [], (i : Int) + 1, 3)
def parseV (ls : List (List UInt8)) (e : Bool) : Int × List S26 × Int × Int := match ls with
  | [] => (0, [], 0, 3)
  | l :: r => match headL l with
    | none => (0, [], 0, 3)
    | some R => if r = [] ∧ e = false then (0, [], 0, 3) else valR R (run lineL e r [])
theorem lns_next {s : List UInt8} (h : s ≠ []) : lns (ba s) = (ba (cut1 10 s).1, (cut1 10 s).2.2) :: lns (ba (cut1 10 s).2.1) := by
  have hs : ¬ (ba s).size = 0 := fun e => h (List.eq_nil_of_length_eq_zero e)
  rw [lns_cons hs]; rfl
theorem fin_ev (R : Int) (o : List S26) : Ev (fun k => (tariff_right.f k R o).bind fun c => if c = true then some (R, o, (-1 : Int), (0 : Int)) else some (0, [], -1, 1)) (valR R (o, none)) := by
  have hb := right_B R o
  show Ev _ (if OKT R o then (R, o, -1, 0) else (0, [], -1, 1))
  by_cases ok : OKT R o
  · rw [if_pos ok]; exact evb (hb.1 ok) (evp rfl (Ev.now _))
  · rw [if_neg ok]; exact evb (hb.2 ok) (evn (by simp) (Ev.now _))
theorem tariff_rows (R : Int) (e : Bool) : ∀ (ls : List (List UInt8)) (s : List UInt8) (out : List S26), lin [] s = (ls, e) → s.length ≤ 5000 → out.length + ls.length ≤ 100000 →
    Ev (fun k => tariff_Parse.go k (lns (ba s)) (out.length + 1) R out) (valR R (run lineL e ls out)) := by
  intro ls
  induction ls with
  | nil =>
    intro s out h1 h2 h3
    obtain ⟨rfl, rfl⟩ := lin_nil h1
    have e0 : lns (ba ([] : List UInt8)) = [] := lns_nil rfl
    rw [e0]
    show Ev (fun k => if out.length + 1 = 0 then some (0, [], 0, 3) else (tariff_right.f k R out).bind fun c => if c = true then some (R, out, -1, 0) else some (0, [], -1, 1)) _
    exact evn (by omega) (fin_ev R out)
  | cons l r ih =>
    intro s out h1 h2 h3
    obtain ⟨e1, e2, hne, hll⟩ := lin_next h1
    have hd := rate_line (cut1 10 s).1 (cut1 10 s).2.2 (by rw [e1]; omega)
    rw [e1] at hd
    rw [lns_next hne, e1]
    have step : ∀ y, Ev (fun k => match (if (cut1 10 s).2.2 = true then lineL l else none) with
        | none => some (0, [], ((out.length + 1 : Nat) : Int), 3)
        | some g => tariff_Parse.go k (lns (ba (cut1 10 s).2.1)) (out.length + 1 + 1) R (out ++ [g])) y → Ev (fun k => tariff_Parse.go k ((ba l, (cut1 10 s).2.2) :: lns (ba (cut1 10 s).2.1)) (out.length + 1) R out) y := by
      intro y hy
      show Ev (fun k => if out.length + 1 < 4294967296 ∧ out.length < 4294967296 then (if out.length + 1 = 0 then (tariff_Parse.word k (ba l, (cut1 10 s).2.2)).bind fun y => match y with
          | none => some (0, [], 0, 3)
          | some R' => tariff_Parse.go k (lns (ba (cut1 10 s).2.1)) 1 R' out
        else (tariff_Parse.rate k (ba l, (cut1 10 s).2.2)).bind fun y => match y with
          | none => some (0, [], ((out.length + 1 : Nat) : Int), 3)
          | some g => tariff_Parse.go k (lns (ba (cut1 10 s).2.1)) (out.length + 1 + 1) R (out ++ [g])) else none) y
      exact evp (by simp at h3; omega) (evn (by omega) (evb hd hy))
    rw [run_cons]
    cases hx : lineL l with
    | none =>
      refine step _ ?_
      rw [hx, ite_self]
      exact evr (by simp [valR])
    | some x =>
      rw [hx] at step
      simp only []
      rcases e2 with ⟨c, hrest⟩ | ⟨c, _, rfl, rfl⟩
      · have hno : ¬ (r = [] ∧ e = false) := fun h => by
          have := (lin_nil (s := (cut1 10 s).2.1) (e := e) (by rw [hrest, h.1])).2
          rw [h.2] at this; cases this
        rw [if_neg hno]
        have hl2 := cut1_len 10 s c
        have q := ih (cut1 10 s).2.1 (out ++ [x]) hrest (by omega) (by rw [List.length_append]; simp at h3 ⊢; omega)
        rw [List.length_append] at q
        rw [if_pos c] at step
        exact step _ q
      · rw [if_pos ⟨rfl, rfl⟩]
        rw [if_neg (by simp [c])] at step
        exact step _ (evr (by simp [valR]))
theorem tariff_parse (s : ByteArray) (hs : s.size ≤ 4096) : Ev (fun k => tariff_Parse.f k s) (parseV (lin [] s.data.toList).1 (lin [] s.data.toList).2) := by
  have hz := size_data s
  refine evn (by omega) ?_
  have hba := ba_data s
  generalize s.data.toList = t at *
  rw [← hba]
  cases hlin : lin [] t with
  | mk ls e =>
    cases ls with
    | nil =>
      obtain ⟨rfl, rfl⟩ := lin_nil hlin
      have e0 : lns (ba ([] : List UInt8)) = [] := lns_nil rfl
      rw [e0]
      show Ev (fun k => if (0 : Nat) = 0 then some (0, [], 0, 3) else (tariff_right.f k 0 []).bind fun c => if c = true then some (0, [], -1, 0) else some (0, [], -1, 1)) _
      exact evp rfl (Ev.now _)
    | cons l r =>
      obtain ⟨e1, e2, hne, hll⟩ := lin_next hlin
      have hlen := lin_len t []
      rw [hlin] at hlen
      have hd := word_line (cut1 10 t).1 (cut1 10 t).2.2
      rw [e1] at hd
      rw [lns_next hne, e1]
      have step : ∀ y, Ev (fun k => match (if (cut1 10 t).2.2 = true then headL l else none) with
          | none => some (0, [], 0, 3)
          | some R' => tariff_Parse.go k (lns (ba (cut1 10 t).2.1)) 1 R' []) y → Ev (fun k => tariff_Parse.go k ((ba l, (cut1 10 t).2.2) :: lns (ba (cut1 10 t).2.1)) 0 0 []) y := by
        intro y hy
        show Ev (fun k => if 0 < 4294967296 ∧ ([] : List S26).length < 4294967296 then (if (0 : Nat) = 0 then (tariff_Parse.word k (ba l, (cut1 10 t).2.2)).bind fun y => match y with
            | none => some (0, [], 0, 3)
            | some R' => tariff_Parse.go k (lns (ba (cut1 10 t).2.1)) 1 R' []
          else (tariff_Parse.rate k (ba l, (cut1 10 t).2.2)).bind fun y => match y with
            | none => some (0, [], ((0 : Nat) : Int), 3)
            | some g => tariff_Parse.go k (lns (ba (cut1 10 t).2.1)) (0 + 1) 0 ([] ++ [g])) else none) y
        exact evp (by simp) (evp rfl (evb hd hy))
      show Ev _ (match headL l with
        | none => (0, [], 0, 3)
        | some R => if r = [] ∧ e = false then (0, [], 0, 3) else valR R (run lineL e r []))
      cases hx : headL l with
      | none =>
        refine step _ ?_
        rw [hx, ite_self]
        exact Ev.now _
      | some R =>
        rw [hx] at step
        simp only []
        rcases e2 with ⟨c, hrest⟩ | ⟨c, _, rfl, rfl⟩
        · have hno : ¬ (r = [] ∧ e = false) := fun h => by
            have := (lin_nil (s := (cut1 10 t).2.1) (e := e) (by rw [hrest, h.1])).2
            rw [h.2] at this; cases this
          rw [if_neg hno]
          have hl2 := cut1_len 10 t c
          rw [if_pos c] at step
          exact step _ (tariff_rows R e r (cut1 10 t).2.1 [] hrest (by omega) (by simp at hlen ⊢; omega))
        · rw [if_pos ⟨rfl, rfl⟩]
          rw [if_neg (by simp [c])] at step
          exact step _ (Ev.now _)
end Go.Proofs.YtholbmidciapdaaGreatDoor.PL
