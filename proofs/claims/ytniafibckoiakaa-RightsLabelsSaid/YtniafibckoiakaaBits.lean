/- The walk of RightsBits: it returns true. Conditions: none. -/
import Derived.Test.YtniafibckoiakaaFns2
import Derived.Deep.DeepCutAuto
namespace Go.Proofs.Ytniafibckoiakaa
open Go.RowKit
theorem rnd_eq (k n : Int) : (k.tmod n + n) % n = k % n := by
  rw [Int.add_emod_right, Int.tmod_def, Int.sub_mul_emod_self_left]
theorem tmod_rng (k n : Int) (h : 0 < n) : k.tmod n < n ∧ -n < k.tmod n := by
  have h1 := Int.tmod_lt_of_pos k h
  have h3 := Int.tmod_lt_of_pos (-k) h
  rw [Int.neg_tmod] at h3
  omega
theorem round_c (k n : Int) (w : World) (h : 0 < n) (h' : n ≤ 1099511627776) : Calls Try.prog 15 #[.int .i64 k, .int .i64 n] w fun e w' => e = .returned (.int .i64 (k % n)) ∧ w = w' := by
  obtain ⟨h1, h2⟩ := tmod_rng k n h
  have hn : (n == 0) = false := by simp; omega
  have hn1 : (n == -1) = false := by simp; omega
  go_enter Try.func15, Try.ntmps15
  go_wp2
  go_ret
  exact ⟨congrArg (fun z => Ending.returned (.int .i64 z)) (rnd_eq k n), rfl⟩

/-- How many of the first k bits are there. -/
def cnt (x : Int) : Nat → Int
  | 0 => 0
  | k + 1 => if canB x (2 ^ k) = true then cnt x k + 1 else cnt x k
def factsB (x y : Int) : Bool :=
  (((textB x).toList == (textB y).toList) == (x == y)) && canB (bits .or .i64 x y) x && (canB x (bits .or .i64 x y) == (bits .andNot .i64 y x == 0)) && (x == 0 || ((textB x).size : Int) == cnt x 4) &&
  (withinB x y == (decide (0 < x) && decide (0 < y) && (bits .andNot .i64 x y == 0)))
set_option maxRecDepth 100000 in
theorem facts_all : ∀ x y : Fin 16, factsB (x.val : Int) (y.val : Int) = true := by decide +kernel
theorem facts (x y : Int) (hx : 0 ≤ x) (hx' : x < 16) (hy : 0 ≤ y) (hy' : y < 16) : factsB x y = true := by
  have h := facts_all ⟨x.toNat, by omega⟩ ⟨y.toNat, by omega⟩
  have e1 : ((x.toNat : Nat) : Int) = x := by omega
  have e2 : ((y.toNat : Nat) : Int) = y := by omega
  simpa only [e1, e2] using h
theorem cnt_rng (x : Int) (k : Nat) : 0 ≤ cnt x k ∧ cnt x k ≤ k := by
  induction k with
  | zero => simp [cnt]
  | succ k ih => unfold cnt; split <;> omega

set_option maxRecDepth 100000 in
set_option maxHeartbeats 4000000 in
theorem bits_c (r s : Int) (w : World) : Calls Try.prog 5 #[.int .i64 r, .int .i64 s] w fun e w' => e = .returned (.bool true) ∧ Below w.heap.size w w' := by
  have hx := Int.emod_nonneg r (show (16 : Int) ≠ 0 by decide)
  have hx' := Int.emod_lt_of_pos r (show (0 : Int) < 16 by decide)
  have hy := Int.emod_nonneg s (show (16 : Int) ≠ 0 by decide)
  have hy' := Int.emod_lt_of_pos s (show (0 : Int) < 16 by decide)
  go_enter Try.func5, Try.ntmps5
  go_upto_region 2 with (go_at_call 15; refine (round_c _ _ _ (by omega) (by omega)).mono ?_; rintro e w' ⟨rfl, rfl⟩)
  generalize r % 16 = x at *
  generalize s % 16 = y at *
  have hf := facts x y hx hx' hy hy'
  simp only [factsB, Bool.and_eq_true, beq_iff_eq, Bool.or_eq_true] at hf
  obtain ⟨⟨⟨⟨f1, f2⟩, f3⟩, f4⟩, f5⟩ := hf
  have F4 := Lib.hid f4
  have F5 := Lib.hid f5
  clear f4 f5
  go_wp2_with (first
    | (go_at_call 11; refine (text_c _ _).mono ?_; rintro e w1 ⟨rfl, hb⟩)
    | (go_at_call 10; refine (can_c _ _ _).mono ?_; rintro e w' ⟨rfl, rfl⟩))
  have B1 : Below w.heap.size w w1 := Below.trans ‹Below w.heap.size w _› (Below.mono hb ‹Below w.heap.size w _›.size)
  clear hb
  go_loop [7, 8] (fun t i => ∃ k : Nat, k ≤ 4 ∧ i = .int .i64 k ∧ t = .int .i64 (cnt x k)) (fun _ i => 4 - (intOf i).toNat)
  case atStart => exact ⟨0, by omega, rfl, rfl⟩
  case round =>
    obtain ⟨k, hk, rfl, rfl⟩ := hrel
    have hc := cnt_rng x k
    obtain ⟨hc1, hc2⟩ := hc
    have HN := Lib.hid (And.intro (fun j (h : canB x (2 ^ j) = true) => (show cnt x (j + 1) = cnt x j + 1 by rw [cnt, if_pos h])) (fun j (h : canB x (2 ^ j) = false) => (show cnt x (j + 1) = cnt x j by rw [cnt, if_neg (by simp [h])])))
    rcases (by omega : k = 0 ∨ k = 1 ∨ k = 2 ∨ k = 3 ∨ k = 4) with rfl | rfl | rfl | rfl | rfl
    · go_wp2_with (go_at_call 10; refine (can_c _ _ _).mono ?_; rintro e w' ⟨rfl, rfl⟩)
      all_goals first
        | exact ⟨⟨1, by omega, rfl, congrArg (Value.int .i64) (HN.out.1 0 (by assumption)).symm⟩, by simp [intOf]⟩
        | exact ⟨⟨1, by omega, rfl, congrArg (Value.int .i64) (HN.out.2 0 (by first | assumption | exact Bool.eq_false_iff.2 (by assumption))).symm⟩, by simp [intOf]⟩
    · go_wp2_with (go_at_call 10; refine (can_c _ _ _).mono ?_; rintro e w' ⟨rfl, rfl⟩)
      all_goals first
        | exact ⟨⟨2, by omega, rfl, congrArg (Value.int .i64) (HN.out.1 1 (by assumption)).symm⟩, by simp [intOf]⟩
        | exact ⟨⟨2, by omega, rfl, congrArg (Value.int .i64) (HN.out.2 1 (by first | assumption | exact Bool.eq_false_iff.2 (by assumption))).symm⟩, by simp [intOf]⟩
    · go_wp2_with (go_at_call 10; refine (can_c _ _ _).mono ?_; rintro e w' ⟨rfl, rfl⟩)
      all_goals first
        | exact ⟨⟨3, by omega, rfl, congrArg (Value.int .i64) (HN.out.1 2 (by assumption)).symm⟩, by simp [intOf]⟩
        | exact ⟨⟨3, by omega, rfl, congrArg (Value.int .i64) (HN.out.2 2 (by first | assumption | exact Bool.eq_false_iff.2 (by assumption))).symm⟩, by simp [intOf]⟩
    · go_wp2_with (go_at_call 10; refine (can_c _ _ _).mono ?_; rintro e w' ⟨rfl, rfl⟩)
      all_goals first
        | exact ⟨⟨4, by omega, rfl, congrArg (Value.int .i64) (HN.out.1 3 (by assumption)).symm⟩, by simp [intOf]⟩
        | exact ⟨⟨4, by omega, rfl, congrArg (Value.int .i64) (HN.out.2 3 (by first | assumption | exact Bool.eq_false_iff.2 (by assumption))).symm⟩, by simp [intOf]⟩
    · clear HN hk hc1 hc2
      by_cases hx0 : x = 0
      · have g1 : (x == 0) = true := by simp [hx0]
        have g2 : decide (0 < x) = false := by simp [hx0]
        have g3 : withinB x y = false := by rw [F5.out, g2]; rfl
        clear hx0 F4 F5
        go_wp2_with (first
            | (go_at_call 11; refine (text_c _ _).mono ?_; rintro e w2 ⟨rfl, hb2⟩)
            | (go_at_call 9; refine (rWithin_c _ _ _).mono ?_; rintro e w' ⟨rfl, rfl⟩)
            | (go_at_call 14; refine (awake_c _).mono ?_; rintro e w3 ⟨rfl, hb3⟩))
        go_ret
        exact ⟨rfl, by first | exact B1.trans (hb3.mono B1.size) | exact (B1.trans (hb2.mono B1.size)).trans (hb3.mono (B1.trans (hb2.mono B1.size)).size)⟩
      · have g1 : (x == 0) = false := by simp [hx0]
        have g2 : decide (0 < x) = true := by simp; omega
        have g4 : (((textB x).size : Int) == cnt x 4) = true := by rcases F4.out with h | h; (exact absurd h hx0); simp [h]
        by_cases hy0 : y = 0
        · have g5 : decide (0 < y) = false := by simp [hy0]
          have g3 : withinB x y = false := by rw [F5.out, g2, g5]; rfl
          clear hx0 hy0 F4 F5
          go_wp2_with (first
            | (go_at_call 11; refine (text_c _ _).mono ?_; rintro e w2 ⟨rfl, hb2⟩)
            | (go_at_call 9; refine (rWithin_c _ _ _).mono ?_; rintro e w' ⟨rfl, rfl⟩)
            | (go_at_call 14; refine (awake_c _).mono ?_; rintro e w3 ⟨rfl, hb3⟩))
          go_ret
          exact ⟨rfl, by first | exact B1.trans (hb3.mono B1.size) | exact (B1.trans (hb2.mono B1.size)).trans (hb3.mono (B1.trans (hb2.mono B1.size)).size)⟩
        · have g5 : decide (0 < y) = true := by simp; omega
          have g3 : withinB x y = (bits .andNot .i64 x y == 0) := by rw [F5.out, g2, g5]; rfl
          clear hx0 hy0 F4 F5
          go_wp2_with (first
            | (go_at_call 11; refine (text_c _ _).mono ?_; rintro e w2 ⟨rfl, hb2⟩)
            | (go_at_call 9; refine (rWithin_c _ _ _).mono ?_; rintro e w' ⟨rfl, rfl⟩)
            | (go_at_call 14; refine (awake_c _).mono ?_; rintro e w3 ⟨rfl, hb3⟩))
          go_ret
          exact ⟨rfl, by first | exact B1.trans (hb3.mono B1.size) | exact (B1.trans (hb2.mono B1.size)).trans (hb3.mono (B1.trans (hb2.mono B1.size)).size)⟩
end Go.Proofs.Ytniafibckoiakaa
