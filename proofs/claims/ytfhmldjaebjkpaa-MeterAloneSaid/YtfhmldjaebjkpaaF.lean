/- The law's constant part, for the meter. Conditions: none. -/
import Derived.Test.YtfhmldjaebjkpaaE
namespace Go.Proofs.Ytfhmldjaebjkpaa
open Go.RowKit
def quota (m : Mt) (t : Nat) (n : Int) : Prop := m.rq - rq m t < 1 ∨ m.bt - bt m t < n
instance (m : Mt) (t : Nat) (n : Int) : Decidable (quota m t n) := inferInstanceAs (Decidable (_ ∨ _))
def chC (m : Mt) (t : Nat) (n : Int) : Int := if quota m t n then 4 else 0
def chM (m : Mt) (t : Nat) (n : Int) : Mt := if quota m t n then m else { m with cs := (m.cs.set (t * 2) (rq m t + 1)).set (t * 2 + 1) (bt m t + n) }
structure Rng (m : Mt) : Prop where
  rq0 : 0 ≤ m.rq
  rq1 : m.rq ≤ 65535
  bt0 : 0 ≤ m.bt
  bt1 : m.bt ≤ 65535
  all : ∀ t, t < m.n → 0 ≤ rq m t ∧ rq m t ≤ 65535 ∧ 0 ≤ bt m t ∧ bt m t ≤ 65535
theorem charge_any (g L : Nat) (m : Mt) (ti : Int) (t : Nat) (n : Int) (w : World) (hti : ti = t) (h : MAt w g L m) (ht : t < m.n) (hr : Rng m) (hn : 0 ≤ n) :
    Calls Try.prog 10 #[.pointer (some ⟨g, 0, none⟩), .int .i64 ti, .int .i64 n] w fun e w' => e = .returned (.int .i64 (chC m t n)) ∧ MAt w' g L (chM m t n) ∧ Chg g L w w' := by
  subst hti
  obtain ⟨q1, q2, q3, q4⟩ := hr.all t ht
  by_cases hq : quota m t n
  · refine (charge_quota g L m t n w h ht hr.rq0 hr.rq1 hr.bt0 hr.bt1 q1 q2 q3 q4 hn hq).mono ?_
    rintro e w' ⟨rfl, k, rfl⟩
    rw [chC, chM, if_pos hq, if_pos hq]
    exact ⟨rfl, h.drewN k, (Chg.refl _ _ _).drewN k⟩
  · have hq2 : 1 ≤ m.rq - rq m t ∧ n ≤ m.bt - bt m t := by unfold quota at hq; omega
    refine (charge_ok g L m t n w h ht hr.rq0 hr.rq1 hr.bt0 hr.bt1 q1 q2 q3 q4 hn hq2.1 hq2.2).mono ?_
    rintro e w' ⟨rfl, k, rfl⟩
    rw [chC, chM, if_neg hq, if_neg hq]
    refine ⟨rfl, ?_, (((Chg.refl _ _ _).drewN k).setL _ _).setL _ _⟩
    exact MAt.set (MAt.set (h.drewN k) (t * 2) _ (by omega)) (t * 2 + 1) _ (by dsimp only; omega)
theorem left_any (g L : Nat) (m : Mt) (ti : Int) (t : Nat) (w : World) (hti : ti = t) (h : MAt w g L m) (ht : t < m.n) (hr : Rng m) :
    Calls Try.prog 11 #[.pointer (some ⟨g, 0, none⟩), .int .i64 ti] w fun e w' => e = .returned (.tuple #[.int .i64 (m.rq - rq m t), .int .i64 (m.bt - bt m t)]) ∧ MAt w' g L m ∧ Chg g L w w' := by
  subst hti
  obtain ⟨q1, q2, q3, q4⟩ := hr.all t ht
  refine (left_c g L m t w h ht hr.rq0 hr.rq1 hr.bt0 hr.bt1 q1 q2 q3 q4).mono ?_
  rintro e w' ⟨rfl, k, rfl⟩
  exact ⟨rfl, h.drewN k, (Chg.refl _ _ _).drewN k⟩
theorem new_bad (win rq bt tick : Int) (w : World) : Calls Try.prog 6 #[.int .i64 0, .int .i64 win, .int .i64 rq, .int .i64 bt, .int .i64 tick, .slice none 0 0] w
      fun e w' => e = .returned (.tuple #[.pointer none, .int .i64 2]) ∧ w = w' := by
  go_enter Try.func6, Try.ntmps6
  go_wp2_with (go_at_call 13; refine (within_c _ _ _ _).mono ?_; rintro e w' ⟨rfl, rfl⟩)
  go_ret2
  exact ⟨rfl, rfl⟩
theorem charge_nil (t n : Int) (w : World) : Calls Try.prog 10 #[.pointer none, .int .i64 t, .int .i64 n] w fun e w' => e = .returned (.int .i64 2) ∧ w = w' := by
  go_enter Try.func10, Try.ntmps10
  go_wp2
  go_ret
  exact ⟨rfl, rfl⟩
theorem tick_nil (w : World) : Calls Try.prog 8 #[.pointer none] w fun e w' => e = .returned (.bool false) ∧ w = w' := by
  go_enter Try.func8, Try.ntmps8
  go_wp2
  go_ret
  exact ⟨rfl, rfl⟩
theorem charge_out (g L : Nat) (m : Mt) (ti n : Int) (w : World) (h : MAt w g L m) (ht : (m.n : Int) - 1 < ti) : Calls Try.prog 10 #[.pointer (some ⟨g, 0, none⟩), .int .i64 ti, .int .i64 n] w fun e w' => e = .returned (.int .i64 2) ∧ w = w' := by
  have h4 := h.2.2.2.2.1
  have h9 := h.2.2.2.2.2.2.2.2.2
  have hw : decide (ti ≤ (m.n : Int) - 1) = false := by simp; omega
  have h0 : (0 : Int) ≤ ti := by omega
  clear h ht
  go_enter Try.func10, Try.ntmps10
  go_wp2_with (go_at_call 13; refine (within_c _ _ _ _).mono ?_; rintro e w' ⟨rfl, rfl⟩)
  go_ret
  exact ⟨rfl, rfl⟩
theorem Chg.below {g L B : Nat} {w w' : World} (h : Chg g L w w') (hg : B ≤ g) (hL : B ≤ L) : Below B w w' :=
  ⟨h.os, h.tape, h.output, by rw [h.size]; exact Nat.le_refl _, fun k hk => h.block k (by omega) (by omega)⟩
def ma (now : Int) (cs : List Int) : Mt := ⟨3, 2, 10, now, 2, cs⟩
theorem rngA (now : Int) (cs : List Int) (h : ∀ t, t < 2 → 0 ≤ rq (ma now cs) t ∧ rq (ma now cs) t ≤ 65535 ∧ 0 ≤ bt (ma now cs) t ∧ bt (ma now cs) t ≤ 65535) : Rng (ma now cs) :=
  ⟨by show (0 : Int) ≤ 2; decide, by show (2 : Int) ≤ 65535; decide, by show (0 : Int) ≤ 10; decide, by show (10 : Int) ≤ 65535; decide, h⟩

set_option maxHeartbeats 2000000 in
theorem awake_c (w : World) : Calls Try.prog 5 #[] w fun e w' => e = .returned (.bool true) ∧ Below w.heap.size w w' := by
  have R1 : Rng (ma 1 [0, 0, 0, 0]) := rngA _ _ (by decide)
  have R2 : Rng (ma 1 [0, 0, 1, 4]) := rngA _ _ (by decide)
  have R3 : Rng (ma 1 [0, 0, 2, 10]) := rngA _ _ (by decide)
  have R4 : Rng (ma 3 [0, 0, 0, 0]) := rngA _ _ (by decide)
  have R5 : Rng (ma 2 [0, 0, 2, 10]) := rngA _ _ (by decide)
  go_enter Try.func5, Try.ntmps5
  go_wp2_with fail
  refine (new_2 3 2 10 1 w (by decide) (by decide) (by decide) (by decide) (by decide) (by decide) (by decide) (by decide)).mono ?_
  rintro e w1 ⟨rfl, hM, hB, hs⟩
  have hM1 : MAt w1 (w.heap.size + 1) w.heap.size (ma 1 [0, 0, 0, 0]) := hM
  have HB := Lib.hid (And.intro hB hs)
  have HM1 := Lib.hid hM1
  clear hM hM1 hB hs
  go_wp2_with fail
  refine (new_bad _ _ _ _ _).mono ?_
  rintro e w2 ⟨rfl, rfl⟩
  go_wp2_with fail
  refine (charge_any _ _ (ma 1 [0, 0, 0, 0]) 1 1 4 _ (by decide) HM1.out (by decide) R1 (by decide)).mono ?_
  rintro e w2 ⟨rfl, hM, hC2⟩
  have hM2 : MAt w2 (w.heap.size + 1) w.heap.size (ma 1 [0, 0, 1, 4]) := hM
  have HM2 := Lib.hid hM2
  have HC2 := Lib.hid hC2
  have v2 : chC (ma 1 [0, 0, 0, 0]) 1 4 = 0 := by decide
  clear hM hM2 hC2
  go_wp2_with fail
  refine (charge_any _ _ (ma 1 [0, 0, 1, 4]) 1 1 7 _ (by decide) HM2.out (by decide) R2 (by decide)).mono ?_
  rintro e w3 ⟨rfl, hM, hC3⟩
  have hM3 : MAt w3 (w.heap.size + 1) w.heap.size (ma 1 [0, 0, 1, 4]) := hM
  have HM3 := Lib.hid hM3
  have HC3 := Lib.hid hC3
  have v3 : chC (ma 1 [0, 0, 1, 4]) 1 7 = 4 := by decide
  clear hM hM3 hC3
  go_wp2_with fail
  refine (charge_any _ _ (ma 1 [0, 0, 1, 4]) 1 1 6 _ (by decide) HM3.out (by decide) R2 (by decide)).mono ?_
  rintro e w4 ⟨rfl, hM, hC4⟩
  have hM4 : MAt w4 (w.heap.size + 1) w.heap.size (ma 1 [0, 0, 2, 10]) := hM
  have HM4 := Lib.hid hM4
  have HC4 := Lib.hid hC4
  have v4 : chC (ma 1 [0, 0, 1, 4]) 1 6 = 0 := by decide
  clear hM hM4 hC4
  go_wp2_with fail
  refine (charge_any _ _ (ma 1 [0, 0, 2, 10]) 1 1 0 _ (by decide) HM4.out (by decide) R3 (by decide)).mono ?_
  rintro e w5 ⟨rfl, hM, hC5⟩
  have hM5 : MAt w5 (w.heap.size + 1) w.heap.size (ma 1 [0, 0, 2, 10]) := hM
  have HM5 := Lib.hid hM5
  have HC5 := Lib.hid hC5
  have v5 : chC (ma 1 [0, 0, 2, 10]) 1 0 = 4 := by decide
  clear hM hM5 hC5
  go_wp2_with fail
  refine (left_any _ _ (ma 1 [0, 0, 2, 10]) 1 1 _ (by decide) HM5.out (by decide) R3).mono ?_
  rintro e w6 ⟨rfl, hM6, hC6⟩
  have HM6 := Lib.hid hM6
  have HC6 := Lib.hid hC6
  have v6 : (ma 1 [0, 0, 2, 10]).rq - rq (ma 1 [0, 0, 2, 10]) 1 = 0 := by decide
  have v6' : (ma 1 [0, 0, 2, 10]).bt - bt (ma 1 [0, 0, 2, 10]) 1 = 0 := by decide
  clear hM6 hC6
  go_wp2_with fail
  refine (tick_c _ _ (ma 1 [0, 0, 2, 10]) _ HM6.out (by decide) (by decide) (by decide) (by decide)).mono ?_
  rintro e w7 ⟨rfl, hM, hC7⟩
  have hM7 : MAt w7 (w.heap.size + 1) w.heap.size (ma 2 [0, 0, 2, 10]) := hM
  have HM7 := Lib.hid hM7
  have HC7 := Lib.hid hC7
  clear hM hM7 hC7
  have HS7 := Lib.hid (show w.heap.size + 2 ≤ w7.heap.size by rw [HC7.out.size, HC6.out.size, HC5.out.size, HC4.out.size, HC3.out.size, HC2.out.size]; exact HB.out.2)
  go_wp2_with fail
  refine (counts_c _ _ (ma 2 [0, 0, 2, 10]) _ HM7.out (by have := HS7.out; omega) (by have := HS7.out; omega) R5.all).mono ?_
  rintro e w8 ⟨v, rfl, hown, hB8⟩
  have e8 : (cl (ma 2 [0, 0, 2, 10]) (ma 2 [0, 0, 2, 10]).n).length = 1 := by decide
  rw [e8] at hown
  have HM8 := Lib.hid (HM7.out.below hB8 (by have := HS7.out; omega) (by have := HS7.out; omega))
  have HB8 := Lib.hid hB8
  clear hB8 e8
  rcases hown.2 with ⟨rfl, h0⟩ | ⟨g', cap, cur, rfl, _⟩
  · exact absurd h0 (by decide)
  clear hown
  go_wp2_with fail
  refine (tick_c _ _ (ma 2 [0, 0, 2, 10]) _ HM8.out (by decide) (by decide) (by decide) (by decide)).mono ?_
  rintro e w9 ⟨rfl, hM, hC9⟩
  have hM9 : MAt w9 (w.heap.size + 1) w.heap.size (ma 3 [0, 0, 0, 0]) := hM
  have HM9 := Lib.hid hM9
  have HC9 := Lib.hid hC9
  clear hM hM9 hC9
  have HS9 := Lib.hid (show w.heap.size + 2 ≤ w9.heap.size by have := HB8.out.size; have := HS7.out; rw [HC9.out.size]; omega)
  go_wp2_with fail
  refine (now_c _ _ (ma 3 [0, 0, 0, 0]) _ HM9.out).mono ?_
  rintro e w10 ⟨rfl, rfl⟩
  have v10 : (ma 3 [0, 0, 0, 0]).now = 3 := rfl
  go_wp2_with fail
  refine (counts_c _ _ (ma 3 [0, 0, 0, 0]) _ HM9.out (by have := HS9.out; omega) (by have := HS9.out; omega) R4.all).mono ?_
  rintro e w11 ⟨v, rfl, hown, hB11⟩
  have e11 : (cl (ma 3 [0, 0, 0, 0]) (ma 3 [0, 0, 0, 0]).n).length = 0 := by decide
  rw [e11] at hown
  have HM11 := Lib.hid (HM9.out.below hB11 (by have := HS9.out; omega) (by have := HS9.out; omega))
  have HB11 := Lib.hid hB11
  clear hB11 e11
  rcases hown.2 with ⟨rfl, h0⟩ | ⟨g', cap, cur, rfl, _⟩
  all_goals
    clear hown
    go_wp2_with fail
    refine (charge_out _ _ (ma 3 [0, 0, 0, 0]) 2 1 _ HM11.out (by decide)).mono ?_
    rintro e w12 ⟨rfl, rfl⟩
    go_wp2_with fail
    refine (charge_nil _ _ _).mono ?_
    rintro e w12 ⟨rfl, rfl⟩
    go_wp2_with fail
    refine (tick_nil _).mono ?_
    rintro e w12 ⟨rfl, rfl⟩
    go_wp2_with fail
    go_ret
    refine ⟨rfl, ?_⟩
    have k : w.heap.size ≤ w.heap.size + 1 := by omega
    have c2 := HC2.out.below k (Nat.le_refl _)
    have c3 := HC3.out.below k (Nat.le_refl _)
    have c4 := HC4.out.below k (Nat.le_refl _)
    have c5 := HC5.out.below k (Nat.le_refl _)
    have c6 := HC6.out.below k (Nat.le_refl _)
    have c7 := HC7.out.below k (Nat.le_refl _)
    have c9 := HC9.out.below k (Nat.le_refl _)
    have s7 := HS7.out
    have s9 := HS9.out
    exact ((((((((HB.out.1.trans c2).trans c3).trans c4).trans c5).trans c6).trans c7).trans (HB8.out.mono (by omega))).trans c9).trans (HB11.out.mono (by omega))
end Go.Proofs.Ytfhmldjaebjkpaa
