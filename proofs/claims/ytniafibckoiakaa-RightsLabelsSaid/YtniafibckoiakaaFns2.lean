/- The reference's Narrower and the law's constant part. Conditions: none. -/
import Derived.Test.YtniafibckoiakaaFns
import Derived.BigQuiet
import Derived.Deep.QuietTactic
import Derived.Deep.RegionHeld3
namespace Go.Proofs.Ytniafibckoiakaa
open Go.RowKit
theorem refNarrower_c (c p : CapT) (w : World) : Calls Try.prog 13 #[c.v, p.v] w fun e w' => e = .returned (.bool (narrowB c p)) ∧ Below w.heap.size w w' := by
  obtain ⟨c1, c2, c3, c4, c5, c6, c7, c8, c9⟩ := c
  obtain ⟨p1, p2, p3, p4, p5, p6, p7, p8, p9⟩ := p
  unfold CapT.v
  dsimp only
  go_enter Try.func13, Try.ntmps13
  go_wp2_with (go_at_call 7; refine (refValid_c _ _).mono ?_; rintro e w' ⟨rfl, rfl⟩)
  all_goals (go_ret; refine ⟨?_, ((Below.refl _ _).alloc (Nat.le_refl _) _).alloc (by simp) _⟩; simp [narrowB, withinB, *]; try omega)

theorem bcell {W w1 : World} (hb : Below W.heap.size W w1) : (∀ b o, b < W.heap.size → w1.cell? ⟨b, o, none⟩ = W.cell? ⟨b, o, none⟩) ∧ (∀ b o, b < W.heap.size → w1.frozen? ⟨b, o, none⟩ = W.frozen? ⟨b, o, none⟩) :=
  ⟨fun b o h => hb.cell (p := ⟨b, o, none⟩) h, fun b o h => hb.frozen (p := ⟨b, o, none⟩) h⟩

def capP : CapT := ⟨1, 2, 3, 0, 0, 15, 9, 0, 0⟩
def capC : CapT := ⟨1, 0, 0, 0, 4, 3, 9, 2, 3⟩
theorem narCP (w : World) : Calls Try.prog 12 #[.agg #[.int .i64 1, .int .i64 0, .int .i64 0, .int .i64 0, .int .i64 4, .int .i64 3, .int .i64 9, .int .i64 2, .int .i64 3], .agg #[.int .i64 1, .int .i64 2, .int .i64 3, .int .i64 0, .int .i64 0, .int .i64 15, .int .i64 9, .int .i64 0, .int .i64 0]] w fun e w' => e = .returned (.bool true) ∧ Below w.heap.size w w' :=
  (narrower_c capC capP w).mono fun _ _ h => h
theorem narPC (w : World) : Calls Try.prog 12 #[.agg #[.int .i64 1, .int .i64 2, .int .i64 3, .int .i64 0, .int .i64 0, .int .i64 15, .int .i64 9, .int .i64 0, .int .i64 0], .agg #[.int .i64 1, .int .i64 0, .int .i64 0, .int .i64 0, .int .i64 4, .int .i64 3, .int .i64 9, .int .i64 2, .int .i64 3]] w fun e w' => e = .returned (.bool false) ∧ Below w.heap.size w w' :=
  (narrower_c capP capC w).mono fun _ _ h => h

set_option maxHeartbeats 1000000 in
theorem awake_c (w : World) : Calls Try.prog 14 #[] w fun e w' => e = .returned (.bool true) ∧ Below w.heap.size w w' := by
  have v1 : validB 15 = true := by decide
  have v2 : validB 0 = false := by decide
  have v3 : validB 16 = false := by decide
  have v4 : withinB 5 7 = true := by decide
  have v5 : withinB 8 7 = false := by decide
  have v6 : canB 7 3 = true := by decide
  have v7 : canB 0 0 = true := by decide
  have v8 : canB 16 0 = false := by decide
  have v9 : textB 5 = ⟨#[114, 97]⟩ := by decide
  have v10 : textB 0 = ⟨#[45]⟩ := by decide
  have v11 : textB 16 = ⟨#[]⟩ := by decide
  go_enter Try.func14, Try.ntmps14
  go_wp2_with (first
    | (go_at_call 8; refine (valid_c _ _).mono ?_; rintro e w' ⟨rfl, rfl⟩)
    | (go_at_call 9; refine (rWithin_c _ _ _).mono ?_; rintro e w' ⟨rfl, rfl⟩)
    | (go_at_call 10; refine (can_c _ _ _).mono ?_; rintro e w' ⟨rfl, rfl⟩)
    | (go_at_call 11; refine (text_c _ _).mono ?_; rintro e w1 ⟨rfl, hb⟩; obtain ⟨hc, hf⟩ := bcell hb; have hzz : w.heap.size + 1 < w1.heap.size ∧ w.heap.size < w1.heap.size := by (have := hb.size; (try simp at this); omega))
    | (go_at_call 12; first
        | ((with_reducible refine (narCP _).mono ?_); rintro e w1 ⟨rfl, hb⟩; obtain ⟨hc, hf⟩ := bcell hb; have hzz : w.heap.size + 1 < w1.heap.size ∧ w.heap.size < w1.heap.size := by (have := hb.size; (try simp at this); omega))
        | ((with_reducible refine (narPC _).mono ?_); rintro e w1 ⟨rfl, hb⟩)))
  go_ret
  refine ⟨rfl, ?_⟩
  have B0 : Below w.heap.size w w := Below.refl _ _
  repeat (first | assumption | exact (B0.alloc (Nat.le_refl _) _).alloc (by simp) _ | refine Below.trans ?_ (Below.mono (by assumption) (by (try simp); omega)))
end Go.Proofs.Ytniafibckoiakaa
