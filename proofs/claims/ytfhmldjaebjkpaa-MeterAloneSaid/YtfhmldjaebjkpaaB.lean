/- Contracts of the meter's methods. Conditions: the meter's cells are as 'MAt' says. -/
import Derived.Test.YtfhmldjaebjkpaaA
namespace Go.Proofs.Ytfhmldjaebjkpaa
open Go.RowKit
structure Mt where
  (win rq bt now : Int) (n : Nat) (cs : List Int)
def MAt (w : World) (g L : Nat) (m : Mt) : Prop :=
  w.cell? ⟨g, 0, none⟩ = some (.int .i64 m.win) ∧ w.cell? ⟨g, 1, none⟩ = some (.int .i64 m.rq) ∧ w.cell? ⟨g, 2, none⟩ = some (.int .i64 m.bt) ∧ w.cell? ⟨g, 3, none⟩ = some (.int .i64 m.now) ∧
  w.cell? ⟨g, 4, none⟩ = some (.slice (some ⟨L, 0, none⟩) m.n m.n) ∧ w.frozen? ⟨g, 3, none⟩ = false ∧
  (∀ j, j < 2 * m.n → w.cell? ⟨L, j, none⟩ = some (.int .i64 (m.cs.getD j 0)) ∧ w.frozen? ⟨L, j, none⟩ = false) ∧ g ≠ L ∧ m.cs.length = 2 * m.n ∧ m.n ≤ 16

theorem now_c (g L : Nat) (m : Mt) (w : World) (h : MAt w g L m) : Calls Try.prog 9 #[.pointer (some ⟨g, 0, none⟩)] w fun e w' => e = .returned (.int .i64 m.now) ∧ w = w' := by
  obtain ⟨h0, h1, h2, h3, h4, h5, h6, h7, h8, h9⟩ := h
  clear h6 h7 h8 h9
  go_enter Try.func9, Try.ntmps9
  go_wp2_with (go_at_call 16; refine (load_c _ _ _ _ h3).mono ?_; rintro e w' ⟨rfl, rfl⟩)
  go_ret
  exact ⟨rfl, rfl⟩

theorem load_c' (b o : Nat) (v : Int) (w : World) (h : w.cell? ⟨b, o, none⟩ = some (.int .i64 v)) : Calls Try.prog 16 #[.pointer (some ⟨b, o, none⟩)] w fun e w' => e = .returned (.int .i64 v) ∧ w' = w :=
  (load_c b o v w h).mono fun _ _ h => ⟨h.1, h.2.symm⟩
def rq (m : Mt) (t : Nat) : Int := m.cs.getD (t * 2) 0
def bt (m : Mt) (t : Nat) : Int := m.cs.getD (t * 2 + 1) 0

theorem left_c (g L : Nat) (m : Mt) (t : Nat) (w : World) (h : MAt w g L m) (ht : t < m.n) (r1 : 0 ≤ m.rq) (r2 : m.rq ≤ 65535) (r3 : 0 ≤ m.bt) (r4 : m.bt ≤ 65535) (q1 : 0 ≤ rq m t) (q2 : rq m t ≤ 65535) (q3 : 0 ≤ bt m t) (q4 : bt m t ≤ 65535) :
    Calls Try.prog 11 #[.pointer (some ⟨g, 0, none⟩), .int .i64 t] w fun e w' => e = .returned (.tuple #[.int .i64 (m.rq - rq m t), .int .i64 (m.bt - bt m t)]) ∧ ∃ k, w' = w.drewN k := by
  obtain ⟨h0, h1, h2, h3, h4, h5, h6, h7, h8, h9⟩ := h
  obtain ⟨c1, f1⟩ := h6 (t * 2) (by omega)
  obtain ⟨c2, f2⟩ := h6 (t * 2 + 1) (by omega)
  change w.cell? _ = some (.int .i64 (rq m t)) at c1
  change w.cell? _ = some (.int .i64 (bt m t)) at c2
  have hw : decide ((t : Int) ≤ (m.n : Int) - 1) = true := by simp; omega
  have hi1 : (0 : Int) ≤ (t : Int) := by omega
  have hi2 : (t : Int) < (m.n : Int) := by omega
  clear h6 h7 h8
  go_enter Try.func11, Try.ntmps11
  go_wp2_with (go_at_call 13; refine (within_c _ _ _ _).mono ?_; rintro e w' ⟨rfl, rfl⟩)
  go_quiet ((go_at_call 16; first | exact Calls.quiet_of_same (load_c' _ _ _ _ c1) | exact Calls.quiet_of_same (load_c' _ _ _ _ c2)))
  go_wp2
  go_ret2
  exact ⟨rfl, _, rfl⟩

theorem MAt.drewN {w : World} {g L : Nat} {m : Mt} (h : MAt w g L m) (k : Nat) : MAt (w.drewN k) g L m := h
theorem set_getD (l : List Int) (i j : Nat) (v : Int) (hi : i < l.length) : (l.set i v).getD j 0 = if i = j then v else l.getD j 0 := by
  simp only [List.getD_eq_getElem?_getD, List.getElem?_set]
  split
  · simp
  · rfl
theorem MAt.set {w : World} {g L : Nat} {m : Mt} (h : MAt w g L m) (j : Nat) (v : Int) (hj : j < 2 * m.n) : MAt (w.setCell ⟨L, j, none⟩ (.int .i64 v)) g L { m with cs := m.cs.set j v } := by
  obtain ⟨h0, h1, h2, h3, h4, h5, h6, h7, h8, h9⟩ := h
  have hne : ∀ o, (w.setCell ⟨L, j, none⟩ (.int .i64 v)).cell? ⟨g, o, none⟩ = w.cell? ⟨g, o, none⟩ := fun o => World.cell?_of_block (w := w) (Below.heap_setCell w ⟨L, j, none⟩ _ g h7)
  refine ⟨by rw [hne]; exact h0, by rw [hne]; exact h1, by rw [hne]; exact h2, by rw [hne]; exact h3, by rw [hne]; exact h4, by rw [World.frozen?_setCell]; exact h5, fun i hi => ⟨?_, by rw [World.frozen?_setCell]; exact (h6 i hi).2⟩, h7, by simp [h8], h9⟩
  dsimp only
  rw [set_getD _ _ _ _ (by omega)]
  by_cases hij : j = i
  · subst hij
    rw [if_pos rfl, World.cell?_setCell_same' _ _ _ (by rw [(h6 j hj).1]; rfl)]
  · rw [if_neg hij]
    have : (w.setCell ⟨L, j, none⟩ (.int .i64 v)).cell? ⟨L, i, none⟩ = w.cell? ⟨L, i, none⟩ := by
      unfold World.cell? World.setCell
      simp only [Array.getElem?_modify]
      cases hb : w.heap[L]? with
      | none => simp
      | some o => cases o <;> simp [hij]
    rw [this]
    exact (h6 i hi).1

theorem charge_quota (g L : Nat) (m : Mt) (t : Nat) (n : Int) (w : World) (h : MAt w g L m) (ht : t < m.n) (r1 : 0 ≤ m.rq) (r2 : m.rq ≤ 65535) (r3 : 0 ≤ m.bt) (r4 : m.bt ≤ 65535) (q1 : 0 ≤ rq m t) (q2 : rq m t ≤ 65535) (q3 : 0 ≤ bt m t) (q4 : bt m t ≤ 65535) (hn : 0 ≤ n)
    (hq : m.rq - rq m t < 1 ∨ m.bt - bt m t < n) :
    Calls Try.prog 10 #[.pointer (some ⟨g, 0, none⟩), .int .i64 t, .int .i64 n] w fun e w' => e = .returned (.int .i64 4) ∧ ∃ k, w' = w.drewN k := by
  have hl := left_c g L m t w h ht r1 r2 r3 r4 q1 q2 q3 q4
  obtain ⟨h0, h1, h2, h3, h4, h5, h6, h7, h8, h9⟩ := h
  have hw : decide ((t : Int) ≤ (m.n : Int) - 1) = true := by simp; omega
  have hi1 : (0 : Int) ≤ (t : Int) := by omega
  have hi2 : (t : Int) < (m.n : Int) := by omega
  have HL := Lib.hid hl
  clear h6 h7 h8 hl
  rcases (by omega : m.rq - rq m t < 1 ∨ (¬ m.rq - rq m t < 1 ∧ m.bt - bt m t < n)) with hq | ⟨hq, hq'⟩
  all_goals
    clear ‹m.rq - rq m t < 1 ∨ m.bt - bt m t < n›
    go_enter Try.func10, Try.ntmps10
    go_wp2_with (first
      | (go_at_call 13; refine (within_c _ _ _ _).mono ?_; rintro e w' ⟨rfl, rfl⟩)
      | (go_at_call 11; refine HL.out.mono ?_; rintro e w' ⟨rfl, ⟨k, rfl⟩⟩))
    go_ret
    exact ⟨rfl, _, rfl⟩

theorem charge_ok (g L : Nat) (m : Mt) (t : Nat) (n : Int) (w : World) (h : MAt w g L m) (ht : t < m.n) (r1 : 0 ≤ m.rq) (r2 : m.rq ≤ 65535) (r3 : 0 ≤ m.bt) (r4 : m.bt ≤ 65535) (q1 : 0 ≤ rq m t) (q2 : rq m t ≤ 65535) (q3 : 0 ≤ bt m t) (q4 : bt m t ≤ 65535) (hn : 0 ≤ n)
    (hq : 1 ≤ m.rq - rq m t) (hq' : n ≤ m.bt - bt m t) :
    Calls Try.prog 10 #[.pointer (some ⟨g, 0, none⟩), .int .i64 t, .int .i64 n] w fun e w' => e = .returned (.int .i64 0) ∧ ∃ k, w' = ((w.drewN k).setCell ⟨L, t * 2, none⟩ (.int .i64 (rq m t + 1))).setCell ⟨L, t * 2 + 1, none⟩ (.int .i64 (bt m t + n)) := by
  have hl := left_c g L m t w h ht r1 r2 r3 r4 q1 q2 q3 q4
  have hs := MAt.set h (t * 2) (rq m t + 1) (by omega)
  obtain ⟨s0, s1, s2, s3, s4, s5, s6, s7, s8, s9⟩ := hs
  obtain ⟨d1, e1⟩ := s6 (t * 2 + 1) (by dsimp only; omega)
  dsimp only at d1 s4
  obtain ⟨h0, h1, h2, h3, h4, h5, h6, h7, h8, h9⟩ := h
  rw [set_getD _ _ _ _ (by omega), if_neg (by omega)] at d1
  replace d1 : (w.setCell ⟨L, t * 2, none⟩ (.int .i64 (rq m t + 1))).cell? ⟨L, t * 2 + 1, none⟩ = some (.int .i64 (bt m t)) := d1
  obtain ⟨c1, f1⟩ := h6 (t * 2) (by omega)
  change w.cell? _ = some (.int .i64 (rq m t)) at c1
  have hw : decide ((t : Int) ≤ (m.n : Int) - 1) = true := by simp; omega
  have hi1 : (0 : Int) ≤ (t : Int) := by omega
  have hi2 : (t : Int) < (m.n : Int) := by omega
  have HL := Lib.hid hl
  clear h6 h7 h8 hl s0 s1 s2 s3 s5 s6 s7 s8 s9
  go_enter Try.func10, Try.ntmps10
  go_wp2_with (first
    | (go_at_call 13; refine (within_c _ _ _ _).mono ?_; rintro e w' ⟨rfl, rfl⟩)
    | (go_at_call 11; refine HL.out.mono ?_; rintro e w' ⟨rfl, ⟨k, rfl⟩⟩; have s4' : ((w.drewN k).setCell ⟨L, t * 2, none⟩ (.int .i64 (rq m t + 1))).cell? ⟨g, 4, none⟩ = some (.slice (some ⟨L, 0, none⟩) m.n m.n) := s4)
    | (go_at_call 15; first
        | ((with_reducible refine (add_c L (t * 2) (rq m t) 1 _ ?_ ?_ (by omega) (by omega)).mono ?_); exact c1; exact f1; rintro e w' ⟨rfl, rfl⟩)
        | ((with_reducible refine (add_c L (t * 2 + 1) (bt m t) n _ ?_ ?_ (by omega) (by omega)).mono ?_); exact d1; exact e1; rintro e w' ⟨rfl, rfl⟩)))
  go_ret
  exact ⟨rfl, k, rfl⟩
end Go.Proofs.Ytfhmldjaebjkpaa
