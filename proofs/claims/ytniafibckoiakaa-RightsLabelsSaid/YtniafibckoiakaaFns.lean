/- Contracts of the functions that the statements about rights reach. Conditions: none beyond each lemma's own. -/
import Derived.Test.YtniafibckoiakaaProg
import Derived.WalkKit
import Derived.Lib.OthersKept
import Derived.Lib.Hide
namespace Go.Proofs.Ytniafibckoiakaa
open Go.RowKit
def validB (r : Int) : Bool := decide (1 ≤ r) && decide (r ≤ 15)
def withinB (r o : Int) : Bool := validB r && validB o && (bits .andNot .i64 r o == 0)
def canB (r n : Int) : Bool := decide (0 ≤ r) && decide (r ≤ 15) && decide (0 ≤ n) && decide (n ≤ 15) && (bits .andNot .i64 n r == 0)
def chr : Nat → Nat | 0 => 114 | 1 => 119 | 2 => 97 | _ => 103
def tx (r : Int) : Nat → ByteArray
  | 0 => ⟨#[]⟩
  | k + 1 => if 0 < bits .and .i64 (r / 2 ^ k) 1 then tx r k ++ Utf8.encode (chr k) else tx r k
def textB (r : Int) : ByteArray := if r < 0 ∨ 15 < r then ⟨#[]⟩ else if r = 0 then ⟨#[45]⟩ else tx r 4

theorem enc_size (k : Nat) : (Utf8.encode (chr k)).size = 1 := by
  match k with
  | 0 => decide
  | 1 => decide
  | 2 => decide
  | k + 3 => show (Utf8.encode 103).size = 1; decide
theorem tx_size (r : Int) (k : Nat) : (tx r k).size ≤ k := by
  induction k with
  | zero => exact Nat.le_refl 0
  | succ k ih =>
    unfold tx
    split
    · rw [ByteArray.size_append, enc_size]; omega
    · omega

theorem within_c (a b c : Int) (w : World) : Calls Try.prog 16 #[.int .i64 a, .int .i64 b, .int .i64 c] w fun e w' => e = .returned (.bool (decide (b ≤ a) && decide (a ≤ c))) ∧ w = w' := by
  go_enter Try.func16, Try.ntmps16
  go_wp2
  all_goals (go_ret; simp [*]; try omega)

theorem refValid_c (r : Int) (w : World) : Calls Try.prog 7 #[.int .i64 r] w fun e w' => e = .returned (.bool (validB r)) ∧ w = w' := by
  go_enter Try.func7, Try.ntmps7
  go_wp2_with (go_at_call 16; refine (within_c _ _ _ _).mono ?_; rintro e w' ⟨rfl, rfl⟩)
  go_ret
  exact ⟨rfl, rfl⟩

theorem valid_c (r : Int) (w : World) : Calls Try.prog 8 #[.int .i64 r] w fun e w' => e = .returned (.bool (validB r)) ∧ w = w' := by
  go_enter Try.func8, Try.ntmps8
  go_wp2
  all_goals (go_ret; simp [validB, *]; try omega)

theorem rWithin_c (r o : Int) (w : World) : Calls Try.prog 9 #[.int .i64 r, .int .i64 o] w fun e w' => e = .returned (.bool (withinB r o)) ∧ w = w' := by
  go_enter Try.func9, Try.ntmps9
  go_wp2_with (go_at_call 8; refine (valid_c _ _).mono ?_; rintro e w' ⟨rfl, rfl⟩)
  all_goals (go_ret; simp [withinB, *])

theorem can_c (r n : Int) (w : World) : Calls Try.prog 10 #[.int .i64 r, .int .i64 n] w fun e w' => e = .returned (.bool (canB r n)) ∧ w = w' := by
  go_enter Try.func10, Try.ntmps10
  go_wp2
  all_goals (go_ret; simp [canB, *]; try omega)

theorem text_small (r : Int) (w : World) (h0 : 0 < r) (h1 : r ≤ 15) :
    Calls Try.prog 11 #[.int .i64 r] w fun e w' => e = .returned (.string (tx r 4)) ∧ Below w.heap.size w w' := by
  have e0 : (r == 0) = false := by simp; omega
  go_enter Try.func11, Try.ntmps11
  go_wp2
  go_loopw [3] (fun t wr => ∃ (k : Nat), k ≤ 4 ∧ wr = w.iter ⟨#[114, 119, 97, 103]⟩ k ∧ t = .string (tx r k)) (fun _ wr => 4 - wr.iterPos w.heap.size)
  case atStart => exact ⟨0, by omega, rfl, rfl⟩
  case round =>
    obtain ⟨k, hk, rfl, rfl⟩ := hrel
    have hs := tx_size r k
    have hp : ∀ j, (w.iter ⟨#[114, 119, 97, 103]⟩ j).iterPos w.heap.size = j := fun j => by simp [World.iterPos, World.iter_heap]
    have hpos : ∀ j, j < 4 → 4 - (w.iter ⟨#[114, 119, 97, 103]⟩ (j + 1)).iterPos w.heap.size < 4 - (w.iter ⟨#[114, 119, 97, 103]⟩ j).iterPos w.heap.size := fun j hj => by rw [hp, hp]; omega
    have hov : ∀ j, (tx r k).size + (Utf8.encode (chr j)).size ≤ 9223372036854775807 := fun j => by rw [enc_size]; omega
    have hyes : ∀ j, 0 < bits .and .i64 (r / 2 ^ j) 1 → tx r (j + 1) = tx r j ++ Utf8.encode (chr j) := fun j h => by rw [tx, if_pos h]
    have hno : ∀ j, bits .and .i64 (r / 2 ^ j) 1 ≤ 0 → tx r (j + 1) = tx r j := fun j h => by rw [tx, if_neg (by omega)]
    have H := And.intro hpos (And.intro hov (And.intro hyes hno))
    have H' := Lib.hid H
    clear hpos hov hyes hno H hs hp
    rcases (by omega : k = 0 ∨ k = 1 ∨ k = 2 ∨ k = 3 ∨ k = 4) with rfl | rfl | rfl | rfl | rfl
    · have hn := fun ty => run_next_ascii (P := Try.prog) w ⟨#[114, 119, 97, 103]⟩ 0 ty (by decide) (by decide)
      go_wp2
      all_goals first
        | (exfalso; exact absurd (H'.out.2.1 0) (Nat.not_le.2 (by assumption)))
        | exact ⟨⟨1, by omega, rfl, congrArg Value.string (H'.out.2.2.1 0 (by rw [Int.pow_zero, Int.ediv_one]; assumption)).symm⟩, H'.out.1 0 (by omega)⟩
        | exact ⟨⟨1, by omega, rfl, congrArg Value.string (H'.out.2.2.2 0 (by rw [Int.pow_zero, Int.ediv_one]; assumption)).symm⟩, H'.out.1 0 (by omega)⟩
    · have hn := fun ty => run_next_ascii (P := Try.prog) w ⟨#[114, 119, 97, 103]⟩ 1 ty (by decide) (by decide)
      go_wp2
      all_goals first
        | (exfalso; exact absurd (H'.out.2.1 1) (Nat.not_le.2 (by assumption)))
        | exact ⟨⟨2, by omega, rfl, congrArg Value.string (H'.out.2.2.1 1 (by show 0 < bits .and .i64 (r / 2) 1; assumption)).symm⟩, H'.out.1 1 (by omega)⟩
        | exact ⟨⟨2, by omega, rfl, congrArg Value.string (H'.out.2.2.2 1 (by show bits .and .i64 (r / 2) 1 ≤ 0; assumption)).symm⟩, H'.out.1 1 (by omega)⟩
    · have hn := fun ty => run_next_ascii (P := Try.prog) w ⟨#[114, 119, 97, 103]⟩ 2 ty (by decide) (by decide)
      go_wp2
      all_goals first
        | (exfalso; exact absurd (H'.out.2.1 2) (Nat.not_le.2 (by assumption)))
        | exact ⟨⟨3, by omega, rfl, congrArg Value.string (H'.out.2.2.1 2 (by show 0 < bits .and .i64 (r / 4) 1; assumption)).symm⟩, H'.out.1 2 (by omega)⟩
        | exact ⟨⟨3, by omega, rfl, congrArg Value.string (H'.out.2.2.2 2 (by show bits .and .i64 (r / 4) 1 ≤ 0; assumption)).symm⟩, H'.out.1 2 (by omega)⟩
    · have hn := fun ty => run_next_ascii (P := Try.prog) w ⟨#[114, 119, 97, 103]⟩ 3 ty (by decide) (by decide)
      go_wp2
      all_goals first
        | (exfalso; exact absurd (H'.out.2.1 3) (Nat.not_le.2 (by assumption)))
        | exact ⟨⟨4, by omega, rfl, congrArg Value.string (H'.out.2.2.1 3 (by show 0 < bits .and .i64 (r / 8) 1; assumption)).symm⟩, H'.out.1 3 (by omega)⟩
        | exact ⟨⟨4, by omega, rfl, congrArg Value.string (H'.out.2.2.2 3 (by show bits .and .i64 (r / 8) 1 ≤ 0; assumption)).symm⟩, H'.out.1 3 (by omega)⟩
    · have hn := fun ty => run_next_end (P := Try.prog) w ⟨#[114, 119, 97, 103]⟩ 4 ty (by decide)
      go_wp2
      go_ret
      exact ⟨rfl, (Below.refl _ _).alloc (Nat.le_refl _) _⟩

theorem text_c (r : Int) (w : World) : Calls Try.prog 11 #[.int .i64 r] w fun e w' => e = .returned (.string (textB r)) ∧ Below w.heap.size w w' := by
  by_cases h : r < 0 ∨ 15 < r
  · have e : textB r = ⟨#[]⟩ := if_pos h
    rw [e]
    clear e
    rcases h with h | h
    · go_enter Try.func11, Try.ntmps11
      go_wp2
      go_ret
      exact ⟨rfl, Below.refl _ _⟩
    · have h' : 0 ≤ r := by omega
      go_enter Try.func11, Try.ntmps11
      go_wp2
      go_ret
      exact ⟨rfl, Below.refl _ _⟩
  · by_cases h0 : r = 0
    · subst h0
      go_enter Try.func11, Try.ntmps11
      go_wp2
      go_ret
      exact ⟨rfl, Below.refl _ _⟩
    · have e : textB r = tx r 4 := by rw [textB, if_neg h, if_neg h0]
      rw [e]
      exact text_small r w (by omega) (by omega)

structure CapT where
  (parcel issuer n holder label rights til fromI fromN : Int)
def CapT.v (c : CapT) : Value := .agg #[.int .i64 c.parcel, .int .i64 c.issuer, .int .i64 c.n, .int .i64 c.holder, .int .i64 c.label, .int .i64 c.rights, .int .i64 c.til, .int .i64 c.fromI, .int .i64 c.fromN]
def narrowB (c p : CapT) : Bool := (c.parcel == p.parcel) && withinB c.rights p.rights && decide (c.til ≤ p.til) && ((c.label == p.label) || (p.label == 0)) && (c.fromI == p.issuer) && (c.fromN == p.n)

theorem narrower_c (c p : CapT) (w : World) : Calls Try.prog 12 #[c.v, p.v] w fun e w' => e = .returned (.bool (narrowB c p)) ∧ Below w.heap.size w w' := by
  obtain ⟨c1, c2, c3, c4, c5, c6, c7, c8, c9⟩ := c
  obtain ⟨p1, p2, p3, p4, p5, p6, p7, p8, p9⟩ := p
  unfold CapT.v
  dsimp only
  go_enter Try.func12, Try.ntmps12
  go_wp2_with (go_at_call 9; refine (rWithin_c _ _ _).mono ?_; rintro e w' ⟨rfl, rfl⟩)
  all_goals (go_ret; refine ⟨?_, ((Below.refl _ _).alloc (Nat.le_refl _) _).alloc (by simp) _⟩; simp [narrowB, *]; try omega)
end Go.Proofs.Ytniafibckoiakaa
