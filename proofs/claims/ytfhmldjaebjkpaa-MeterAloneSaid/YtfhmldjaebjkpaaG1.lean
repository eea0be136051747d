/- What the loop of MeterWindow keeps. Conditions: each lemma's own. -/
import Derived.Test.YtfhmldjaebjkpaaF
import Derived.Test.YtfhmldjaebjkpaaOpen
namespace Go.Proofs.Ytfhmldjaebjkpaa
open Go.RowKit
def goodB (win rqs bts : Int) (len : Nat) : Bool := decide (win < 1) || decide (50 < win) || decide (rqs < 0) || decide (50 < rqs) || decide (bts < 0) || decide (500 < bts) || decide (100 < (len : Int))
theorem round_c' (k n : Int) (w : World) (h : 0 < n) (h' : n ≤ 1099511627776) : Calls Try.prog 7 #[.int .i64 k, .int .i64 n] w fun e w' => e = .returned (.int .i64 (k % n)) ∧ w' = w :=
  (round_c k n w h h').mono fun _ _ h => ⟨h.1, h.2.symm⟩
/-- A row of three of the law's own. -/
def RowAt (w : World) (R : Nat) (l : List Int) : Prop := l.length = 3 ∧ ∀ j, j < 3 → w.cell? ⟨R, j, none⟩ = some (.int .i64 (l.getD j 0)) ∧ w.frozen? ⟨R, j, none⟩ = false
theorem RowAt.set {w : World} {R : Nat} {l : List Int} (h : RowAt w R l) (t : Nat) (v : Int) (ht : t < 3) : RowAt (w.setCell ⟨R, t, none⟩ (.int .i64 v)) R (l.set t v) := by
  refine ⟨by simp [h.1], fun j hj => ⟨?_, by rw [World.frozen?_setCell]; exact (h.2 j hj).2⟩⟩
  rw [set_getD _ _ _ _ (by rw [h.1]; exact ht)]
  by_cases e : t = j
  · subst e
    rw [if_pos rfl, World.cell?_setCell_same' _ _ _ (by rw [(h.2 t ht).1]; rfl)]
  · rw [if_neg e, cell_set_ne _ _ _ _ _ e]
    exact (h.2 j hj).1
theorem RowAt.block {w w' : World} {R : Nat} {l : List Int} (h : RowAt w R l) (e : w'.heap[R]? = w.heap[R]?) : RowAt w' R l :=
  ⟨h.1, fun j hj => ⟨(World.cell?_of_block (w := w) e).trans (h.2 j hj).1, (World.frozen?_of_block (w := w) e).trans (h.2 j hj).2⟩⟩
theorem RowAt.other {w : World} {R : Nat} {l : List Int} (h : RowAt w R l) (b j : Nat) (v : Value) (e : R ≠ b) : RowAt (w.setCell ⟨b, j, none⟩ v) R l := h.block (Below.heap_setCell w ⟨b, j, none⟩ v R e)
theorem RowAt.new (w : World) (b : Nat) (h : b = w.heap.size) : RowAt (w.alloc (.cells #[.int .i64 0, .int .i64 0, .int .i64 0] 28)) b [0, 0, 0] := by
  refine ⟨rfl, fun j hj => ⟨?_, by rw [frozen?_alloc_cells]; exact frozen_out _ _ _ (by omega)⟩⟩
  rw [cell_new _ _ _ _ _ h]
  rcases (by omega : j = 0 ∨ j = 1 ∨ j = 2) with rfl | rfl | rfl <;> rfl
/-- What the law's loop keeps. -/
structure Inv (w wr : World) (g L R B : Nat) (win rqs bts : Int) (k : Nat) (now : Int) (cs rl bl : List Int) : Prop where
  mat : MAt wr g L ⟨win, rqs, bts, now, 3, cs⟩
  now0 : 0 ≤ now
  now1 : now ≤ k
  rngs : ∀ t, t < 3 → 0 ≤ rl.getD t 0 ∧ rl.getD t 0 ≤ rqs ∧ 0 ≤ bl.getD t 0 ∧ bl.getD t 0 ≤ bts
  same : ∀ t, t < 3 → rq ⟨win, rqs, bts, now, 3, cs⟩ t = rl.getD t 0 ∧ bt ⟨win, rqs, bts, now, 3, cs⟩ t = bl.getD t 0
  rows : RowAt wr R rl
  rowsB : RowAt wr B bl
  below : Below w.heap.size w wr

theorem Inv.drewN {w wr : World} {g L R B : Nat} {win rqs bts : Int} {k : Nat} {now : Int} {cs rl bl : List Int} (h : Inv w wr g L R B win rqs bts k now cs rl bl) (q : Nat) : Inv w (wr.drewN q) g L R B win rqs bts k now cs rl bl :=
  ⟨h.mat, h.now0, h.now1, h.rngs, h.same, h.rows, h.rowsB, ⟨h.below.os, h.below.tape, h.below.output, h.below.size, h.below.block⟩⟩
theorem Inv.rng {w wr : World} {g L R B : Nat} {win rqs bts : Int} {k : Nat} {now : Int} {cs rl bl : List Int} (h : Inv w wr g L R B win rqs bts k now cs rl bl) (q1 : 0 ≤ rqs) (q2 : rqs ≤ 50) (b1 : 0 ≤ bts) (b2 : bts ≤ 500) : Rng ⟨win, rqs, bts, now, 3, cs⟩ := by
  refine ⟨q1, by show rqs ≤ 65535; omega, b1, by show bts ≤ 65535; omega, fun t ht => ?_⟩
  obtain ⟨e1, e2⟩ := h.same t ht
  obtain ⟨r1, r2, r3, r4⟩ := h.rngs t ht
  rw [e1, e2]
  omega
theorem tickM_now (m : Mt) : (tickM m).now = m.now + 1 := by unfold tickM; split <;> rfl
theorem MAt.block {w w' : World} {g L : Nat} {m : Mt} (h : MAt w g L m) (hg : w'.heap[g]? = w.heap[g]?) (hL : w'.heap[L]? = w.heap[L]?) : MAt w' g L m := by
  obtain ⟨h0, h1, h2, h3, h4, h5, h6, h7, h8, h9⟩ := h
  have c : ∀ o, w'.cell? ⟨g, o, none⟩ = w.cell? ⟨g, o, none⟩ := fun o => World.cell?_of_block (w := w) hg
  have d : ∀ o, w'.cell? ⟨L, o, none⟩ = w.cell? ⟨L, o, none⟩ := fun o => World.cell?_of_block (w := w) hL
  exact ⟨by rw [c]; exact h0, by rw [c]; exact h1, by rw [c]; exact h2, by rw [c]; exact h3, by rw [c]; exact h4, by rw [World.frozen?_of_block (w := w) hg]; exact h5,
    fun j hj => ⟨by rw [d]; exact (h6 j hj).1, by rw [World.frozen?_of_block (w := w) hL]; exact (h6 j hj).2⟩, h7, h8, h9⟩
theorem MAt.other {w : World} {g L : Nat} {m : Mt} (h : MAt w g L m) (b j : Nat) (v : Value) (hg : g ≠ b) (hL : L ≠ b) : MAt (w.setCell ⟨b, j, none⟩ v) g L m :=
  h.block (Below.heap_setCell w ⟨b, j, none⟩ v g hg) (Below.heap_setCell w ⟨b, j, none⟩ v L hL)
theorem zero3 (l : List Int) (h : l.length = 3) (t : Nat) (ht : t < 3) : (((l.set 0 0).set 1 0).set 2 0).getD t 0 = 0 := by
  rw [set_getD _ _ _ _ (by simp [h]), set_getD _ _ _ _ (by simp [h]), set_getD _ _ _ _ (by simp [h])]
  split
  · rfl
  · split
    · rfl
    · rw [if_pos (by omega)]
theorem rep6 (win rqs bts now : Int) (t : Nat) (ht : t < 3) : rq ⟨win, rqs, bts, now, 3, List.replicate 6 0⟩ t = 0 ∧ bt ⟨win, rqs, bts, now, 3, List.replicate 6 0⟩ t = 0 := by
  rcases (by omega : t = 0 ∨ t = 1 ∨ t = 2) with rfl | rfl | rfl <;> exact ⟨rfl, rfl⟩
section
variable {w wr w' : World} {g L R B : Nat} {win rqs bts : Int} {k : Nat} {now : Int} {cs rl bl : List Int}
theorem Inv.chg (h : Inv w wr g L R B win rqs bts k now cs rl bl) (hM : MAt w' g L ⟨win, rqs, bts, now, 3, cs⟩) (hC : Chg g L wr w') (hn : R ≠ g ∧ R ≠ L ∧ B ≠ g ∧ B ≠ L ∧ R ≠ B ∧ w.heap.size ≤ g ∧ w.heap.size ≤ L ∧ w.heap.size ≤ R ∧ w.heap.size ≤ B) :
    Inv w w' g L R B win rqs bts k now cs rl bl :=
  ⟨hM, h.now0, h.now1, h.rngs, h.same, h.rows.block (hC.block R hn.1 hn.2.1), h.rowsB.block (hC.block B hn.2.2.1 hn.2.2.2.1), h.below.trans (hC.below hn.2.2.2.2.2.1 hn.2.2.2.2.2.2.1)⟩
theorem Inv.succ (h : Inv w wr g L R B win rqs bts k now cs rl bl) : Inv w wr g L R B win rqs bts (k + 1) now cs rl bl :=
  ⟨h.mat, h.now0, by have := h.now1; omega, h.rngs, h.same, h.rows, h.rowsB, h.below⟩
theorem Inv.isQuota (h : Inv w wr g L R B win rqs bts k now cs rl bl) (t : Nat) (ht : t < 3) (n : Int) : quota ⟨win, rqs, bts, now, 3, cs⟩ t n ↔ (rqs ≤ rl.getD t 0 ∨ bts < bl.getD t 0 + n) := by
  obtain ⟨e1, e2⟩ := h.same t ht
  unfold quota
  rw [e1, e2]
  dsimp only
  omega
theorem Inv.ok (h : Inv w wr g L R B win rqs bts k now cs rl bl) (t : Nat) (ht : t < 3) (n : Int) (hn0 : 0 ≤ n) (h1 : rl.getD t 0 < rqs) (h2 : bl.getD t 0 + n ≤ bts)
    (hM : MAt w' g L ⟨win, rqs, bts, now, 3, (cs.set (t * 2) (rq ⟨win, rqs, bts, now, 3, cs⟩ t + 1)).set (t * 2 + 1) (bt ⟨win, rqs, bts, now, 3, cs⟩ t + n)⟩) (hC : Chg g L wr w')
    (hn : R ≠ g ∧ R ≠ L ∧ B ≠ g ∧ B ≠ L ∧ R ≠ B ∧ w.heap.size ≤ g ∧ w.heap.size ≤ L ∧ w.heap.size ≤ R ∧ w.heap.size ≤ B) :
    Inv w ((w'.setCell ⟨R, t, none⟩ (.int .i64 (rl.getD t 0 + 1))).setCell ⟨B, t, none⟩ (.int .i64 (bl.getD t 0 + n))) g L R B win rqs bts k now
      ((cs.set (t * 2) (rq ⟨win, rqs, bts, now, 3, cs⟩ t + 1)).set (t * 2 + 1) (bt ⟨win, rqs, bts, now, 3, cs⟩ t + n)) (rl.set t (rl.getD t 0 + 1)) (bl.set t (bl.getD t 0 + n)) := by
  have hlen : cs.length = 6 := h.mat.2.2.2.2.2.2.2.2.1
  have hrl := h.rows.1
  have hbl := h.rowsB.1
  obtain ⟨m1, m2, m3, m4, m5, m6, m7, m8, m9⟩ := hn
  obtain ⟨e1, e2⟩ := h.same t ht
  refine ⟨(hM.other _ _ _ (Ne.symm m1) (Ne.symm m2)).other _ _ _ (Ne.symm m3) (Ne.symm m4), h.now0, h.now1, ?_, ?_, ?_, ?_, ?_⟩
  · intro s hs
    rw [set_getD _ _ _ _ (by omega), set_getD _ _ _ _ (by omega)]
    have q := h.rngs s hs
    have q' := h.rngs t ht
    by_cases e : t = s
    · subst e; rw [if_pos rfl, if_pos rfl]; omega
    · rw [if_neg e, if_neg e]; exact q
  · intro s hs
    rw [set_getD _ _ _ _ (by omega), set_getD _ _ _ _ (by omega)]
    unfold rq bt
    dsimp only
    rw [set_getD _ _ _ _ (by simp; omega), set_getD _ _ _ _ (by omega), set_getD _ _ _ _ (by simp; omega), set_getD _ _ _ _ (by omega)]
    obtain ⟨f1, f2⟩ := h.same s hs
    by_cases e : t = s
    · subst e
      rw [if_neg (by omega), if_pos rfl, if_pos rfl, if_pos rfl, if_pos rfl]
      exact ⟨by rw [← e1]; rfl, by rw [← e2]; rfl⟩
    · rw [if_neg (by omega), if_neg (by omega), if_neg e, if_neg (by omega), if_neg (by omega), if_neg e]
      exact ⟨f1, f2⟩
  · exact ((h.rows.block (hC.block R m1 m2)).set t _ ht).other _ _ _ m5
  · exact ((h.rowsB.block (hC.block B m3 m4)).other _ _ _ (Ne.symm m5)).set t _ ht
  · have bR : Below (min R B) w' (w'.setCell ⟨R, t, none⟩ (.int .i64 (rl.getD t 0 + 1))) := (Below.refl _ _).setCell (p := ⟨R, t, none⟩) (Nat.min_le_left _ _) _
    have bB := bR.setCell (p := ⟨B, t, none⟩) (Nat.min_le_right _ _) (.int .i64 (bl.getD t 0 + n))
    exact (h.below.trans (hC.below m6 m7)).trans (bB.mono (by omega))
end
end Go.Proofs.Ytfhmldjaebjkpaa
