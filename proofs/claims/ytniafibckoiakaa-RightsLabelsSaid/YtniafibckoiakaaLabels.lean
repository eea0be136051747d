/- The walk of RightsLabels: it returns true. Conditions: none. -/
import Derived.Test.YtniafibckoiakaaBits
namespace Go.Proofs.Ytniafibckoiakaa
open Go.RowKit
theorem cell_old (w : World) (o : Obj) (b off : Nat) (h : b < w.heap.size) : (w.alloc o).cell? ⟨b, off, none⟩ = w.cell? ⟨b, off, none⟩ :=
  World.cell?_of_block (w := w) (Below.heap_alloc w o b h)
theorem cell_new (w : World) (c : Array Value) (t : TypeId) (b off : Nat) (h : b = w.heap.size) : (w.alloc (.cells c t)).cell? ⟨b, off, none⟩ = c[off]? := by
  subst h
  unfold World.cell? World.alloc
  simp
theorem cell_drew (w : World) (a : Addr) : w.drew.cell? a = w.cell? a := rfl
theorem narrower_l (c1 c2 c3 c4 c5 c6 c7 c8 c9 p1 p2 p3 p4 p5 p6 p7 p8 p9 : Int) (w : World) : Calls Try.prog 12 #[.agg #[.int .i64 c1, .int .i64 c2, .int .i64 c3, .int .i64 c4, .int .i64 c5, .int .i64 c6, .int .i64 c7, .int .i64 c8, .int .i64 c9], .agg #[.int .i64 p1, .int .i64 p2, .int .i64 p3, .int .i64 p4, .int .i64 p5, .int .i64 p6, .int .i64 p7, .int .i64 p8, .int .i64 p9]] w
    fun e w' => e = .returned (.bool (narrowB ⟨c1, c2, c3, c4, c5, c6, c7, c8, c9⟩ ⟨p1, p2, p3, p4, p5, p6, p7, p8, p9⟩)) ∧ Below w.heap.size w w' :=
  narrower_c ⟨c1, c2, c3, c4, c5, c6, c7, c8, c9⟩ ⟨p1, p2, p3, p4, p5, p6, p7, p8, p9⟩ w
theorem within_self (x : Int) (h1 : 1 ≤ x) (h2 : x ≤ 15) : withinB x x = true := by
  have h := facts x x (by omega) (by omega) (by omega) (by omega)
  have hd : ∀ n : Fin 16, bits .andNot .i64 ((n.val : Int)) ((n.val : Int)) = 0 := by decide
  have h3 := hd ⟨x.toNat, by omega⟩
  have e1 : ((x.toNat : Nat) : Int) = x := by omega
  simp only [e1] at h3
  simp [withinB, validB, h3]
  omega
def six (w W' : World) : Prop := w.heap.size < W'.heap.size ∧ w.heap.size + 1 < W'.heap.size ∧ w.heap.size + 1 + 1 < W'.heap.size ∧ w.heap.size + 1 + 1 + 1 < W'.heap.size ∧ w.heap.size + 1 + 1 + 1 + 1 < W'.heap.size ∧ w.heap.size + 1 + 1 + 1 + 1 + 1 < W'.heap.size
theorem six_of {w W w1 : World} (h : w.heap.size + 6 ≤ W.heap.size) (hb : Below W.heap.size W w1) : six w w1 ∧ w.heap.size + 6 ≤ w1.heap.size := by
  have := hb.size
  unfold six
  omega
set_option maxRecDepth 100000 in
set_option maxHeartbeats 4000000 in
theorem labels_c (r label other til : Int) (w : World) : Calls Try.prog 6 #[.int .i64 r, .int .i64 label, .int .i64 other, .int .i64 til] w fun e w' => e = .returned (.bool true) ∧ Below w.heap.size w w' := by
  by_cases ht : til < 1 ∨ 1099511627776 < til
  · rcases ht with ht | ht
    · go_enter Try.func6, Try.ntmps6
      go_wp2_with (go_at_call 14; refine (awake_c _).mono ?_; rintro e w' ⟨rfl, hb⟩)
      go_ret
      exact ⟨rfl, hb⟩
    · have hd : ¬ til < 1 := by omega
      go_enter Try.func6, Try.ntmps6
      go_wp2_with (go_at_call 14; refine (awake_c _).mono ?_; rintro e w' ⟨rfl, hb⟩)
      go_ret
      exact ⟨rfl, hb⟩
  · obtain ⟨ht1, ht2⟩ : 1 ≤ til ∧ til ≤ 1099511627776 := by omega
    clear ht
    have hx := Int.emod_nonneg r (show (15 : Int) ≠ 0 by decide)
    have hx' := Int.emod_lt_of_pos r (show (0 : Int) < 15 by decide)
    have hy := Int.emod_nonneg label (show (100 : Int) ≠ 0 by decide)
    have hy' := Int.emod_lt_of_pos label (show (0 : Int) < 100 by decide)
    have hz := Int.emod_nonneg other (show (100 : Int) ≠ 0 by decide)
    have hz' := Int.emod_lt_of_pos other (show (0 : Int) < 100 by decide)
    go_enter Try.func6, Try.ntmps6
    go_upto_region 6 with (go_at_call 15; refine (round_c _ _ _ (by omega) (by omega)).mono ?_; rintro e w' ⟨rfl, rfl⟩)
    generalize hX : 1 + r % 15 = x at *
    generalize hA : 1 + label % 100 = a at *
    generalize hB : 1 + other % 100 = b at *
    obtain ⟨x1, x2, a1, a2, b1, b2⟩ : 1 ≤ x ∧ x ≤ 15 ∧ 1 ≤ a ∧ a ≤ 100 ∧ 1 ≤ b ∧ b ≤ 100 := by omega
    clear hX hA hB hx hx' hy hy' hz hz'
    go_region
    all_goals go_upto_region 8 with fail
    all_goals go_region
    all_goals go_upto_region 10 with fail
    all_goals first
      | (
          go_cut [] (fun W' => Below w.heap.size w W' ∧ w.heap.size + 6 ≤ W'.heap.size ∧ W'.cell? ⟨w.heap.size, 0, none⟩ = some (.int .i64 3) ∧ W'.cell? ⟨w.heap.size, 1, none⟩ = some (.int .i64 1) ∧ W'.cell? ⟨w.heap.size, 2, none⟩ = some (.int .i64 2) ∧ W'.cell? ⟨w.heap.size, 3, none⟩ = some (.int .i64 0) ∧ W'.cell? ⟨w.heap.size, 4, none⟩ = some (.int .i64 a) ∧ W'.cell? ⟨w.heap.size, 5, none⟩ = some (.int .i64 x) ∧ W'.cell? ⟨w.heap.size, 6, none⟩ = some (.int .i64 til) ∧ W'.cell? ⟨w.heap.size, 7, none⟩ = some (.int .i64 0) ∧ W'.cell? ⟨w.heap.size, 8, none⟩ = some (.int .i64 0) ∧ W'.cell? ⟨w.heap.size + 1, 0, none⟩ = some (.int .i64 3) ∧ W'.cell? ⟨w.heap.size + 1, 1, none⟩ = some (.int .i64 5) ∧ W'.cell? ⟨w.heap.size + 1, 2, none⟩ = some (.int .i64 0) ∧ W'.cell? ⟨w.heap.size + 1, 3, none⟩ = some (.int .i64 0) ∧ W'.cell? ⟨w.heap.size + 1, 4, none⟩ = some (.int .i64 b) ∧ W'.cell? ⟨w.heap.size + 1, 5, none⟩ = some (.int .i64 x) ∧ W'.cell? ⟨w.heap.size + 1, 6, none⟩ = some (.int .i64 til) ∧ W'.cell? ⟨w.heap.size + 1, 7, none⟩ = some (.int .i64 1) ∧ W'.cell? ⟨w.heap.size + 1, 8, none⟩ = some (.int .i64 2) ∧ W'.cell? ⟨w.heap.size + 1 + 1, 0, none⟩ = some (.int .i64 3) ∧ W'.cell? ⟨w.heap.size + 1 + 1, 1, none⟩ = some (.int .i64 1) ∧ W'.cell? ⟨w.heap.size + 1 + 1, 2, none⟩ = some (.int .i64 2) ∧ W'.cell? ⟨w.heap.size + 1 + 1, 3, none⟩ = some (.int .i64 0) ∧ W'.cell? ⟨w.heap.size + 1 + 1, 4, none⟩ = some (.int .i64 0) ∧ W'.cell? ⟨w.heap.size + 1 + 1, 5, none⟩ = some (.int .i64 x) ∧ W'.cell? ⟨w.heap.size + 1 + 1, 6, none⟩ = some (.int .i64 til) ∧ W'.cell? ⟨w.heap.size + 1 + 1, 7, none⟩ = some (.int .i64 0) ∧ W'.cell? ⟨w.heap.size + 1 + 1, 8, none⟩ = some (.int .i64 0) ∧ W'.cell? ⟨w.heap.size + 1 + 1 + 1, 0, none⟩ = some (.int .i64 3) ∧ W'.cell? ⟨w.heap.size + 1 + 1 + 1, 1, none⟩ = some (.int .i64 5) ∧ W'.cell? ⟨w.heap.size + 1 + 1 + 1, 2, none⟩ = some (.int .i64 0) ∧ W'.cell? ⟨w.heap.size + 1 + 1 + 1, 3, none⟩ = some (.int .i64 0) ∧ W'.cell? ⟨w.heap.size + 1 + 1 + 1, 4, none⟩ = some (.int .i64 0) ∧ W'.cell? ⟨w.heap.size + 1 + 1 + 1, 5, none⟩ = some (.int .i64 x) ∧ W'.cell? ⟨w.heap.size + 1 + 1 + 1, 6, none⟩ = some (.int .i64 til) ∧ W'.cell? ⟨w.heap.size + 1 + 1 + 1, 7, none⟩ = some (.int .i64 1) ∧ W'.cell? ⟨w.heap.size + 1 + 1 + 1, 8, none⟩ = some (.int .i64 2) ∧ W'.cell? ⟨w.heap.size + 1 + 1 + 1 + 1, 0, none⟩ = some (.int .i64 3) ∧ W'.cell? ⟨w.heap.size + 1 + 1 + 1 + 1, 1, none⟩ = some (.int .i64 5) ∧ W'.cell? ⟨w.heap.size + 1 + 1 + 1 + 1, 2, none⟩ = some (.int .i64 0) ∧ W'.cell? ⟨w.heap.size + 1 + 1 + 1 + 1, 3, none⟩ = some (.int .i64 0) ∧ W'.cell? ⟨w.heap.size + 1 + 1 + 1 + 1, 4, none⟩ = some (.int .i64 a) ∧ W'.cell? ⟨w.heap.size + 1 + 1 + 1 + 1, 5, none⟩ = some (.int .i64 x) ∧ W'.cell? ⟨w.heap.size + 1 + 1 + 1 + 1, 6, none⟩ = some (.int .i64 (til + 1)) ∧ W'.cell? ⟨w.heap.size + 1 + 1 + 1 + 1, 7, none⟩ = some (.int .i64 1) ∧ W'.cell? ⟨w.heap.size + 1 + 1 + 1 + 1, 8, none⟩ = some (.int .i64 2) ∧ W'.cell? ⟨w.heap.size + 1 + 1 + 1 + 1 + 1, 0, none⟩ = some (.int .i64 4) ∧ W'.cell? ⟨w.heap.size + 1 + 1 + 1 + 1 + 1, 1, none⟩ = some (.int .i64 5) ∧ W'.cell? ⟨w.heap.size + 1 + 1 + 1 + 1 + 1, 2, none⟩ = some (.int .i64 0) ∧ W'.cell? ⟨w.heap.size + 1 + 1 + 1 + 1 + 1, 3, none⟩ = some (.int .i64 0) ∧ W'.cell? ⟨w.heap.size + 1 + 1 + 1 + 1 + 1, 4, none⟩ = some (.int .i64 a) ∧ W'.cell? ⟨w.heap.size + 1 + 1 + 1 + 1 + 1, 5, none⟩ = some (.int .i64 x) ∧ W'.cell? ⟨w.heap.size + 1 + 1 + 1 + 1 + 1, 6, none⟩ = some (.int .i64 til) ∧ W'.cell? ⟨w.heap.size + 1 + 1 + 1 + 1 + 1, 7, none⟩ = some (.int .i64 1) ∧ W'.cell? ⟨w.heap.size + 1 + 1 + 1 + 1 + 1, 8, none⟩ = some (.int .i64 2))
          case first =>
            go_wp2
            go_meet
            refine ⟨?_, ?_, ?_⟩
            · repeat (first | exact Below.refl _ _ | apply Below.drew | refine Below.alloc ?_ (by first | exact Nat.le_refl _ | (simp; done) | (simp; omega)) _)
            · simp
            · (repeat' apply And.intro)
              all_goals ((repeat (first | rw [cell_drew] | rw [cell_old _ _ _ _ (by first | exact Nat.lt_succ_self _ | (simp; done) | (simp; omega))])); rw [cell_new _ _ _ _ _ (by first | rfl | simp)]; rfl)
          case rest =>
            obtain ⟨hbw, h6', hfacts⟩ := hcut
            have h6 : w.heap.size < wc.heap.size ∧ w.heap.size + 1 < wc.heap.size ∧ w.heap.size + 1 + 1 < wc.heap.size ∧ w.heap.size + 1 + 1 + 1 < wc.heap.size ∧ w.heap.size + 1 + 1 + 1 + 1 < wc.heap.size ∧ w.heap.size + 1 + 1 + 1 + 1 + 1 < wc.heap.size := by omega
            have hw := within_self x x1 x2
            have n1 : narrowB ⟨3, 5, 0, 0, b, x, til, 1, 2⟩ ⟨3, 1, 2, 0, a, x, til, 0, 0⟩ = (a == b) := by simp only [narrowB, hw]; rw [show (a == b) = (b == a) from Bool.beq_comm]; simp; omega
            have n2 : narrowB ⟨3, 5, 0, 0, b, x, til, 1, 2⟩ ⟨3, 1, 2, 0, 0, x, til, 0, 0⟩ = true := by simp [narrowB, hw]
            have n3 : narrowB ⟨3, 5, 0, 0, 0, x, til, 1, 2⟩ ⟨3, 1, 2, 0, 0, x, til, 0, 0⟩ = true := by simp [narrowB, hw]
            have n4 : narrowB ⟨3, 5, 0, 0, 0, x, til, 1, 2⟩ ⟨3, 1, 2, 0, a, x, til, 0, 0⟩ = false := by simp [narrowB, hw]; omega
            have n5 : narrowB ⟨3, 5, 0, 0, a, x, (til + 1), 1, 2⟩ ⟨3, 1, 2, 0, a, x, til, 0, 0⟩ = false := by simp [narrowB, hw]; omega
            have n6 : narrowB ⟨4, 5, 0, 0, a, x, til, 1, 2⟩ ⟨3, 1, 2, 0, a, x, til, 0, 0⟩ = false := by simp [narrowB, hw]
            clear hw
            go_wp2_with (first
              | (go_at_call 12; refine (narrower_l _ _ _ _ _ _ _ _ _ _ _ _ _ _ _ _ _ _ _).mono ?_; rintro e w1 ⟨rfl, hb⟩; obtain ⟨hc, hf⟩ := bcell hb; obtain ⟨h6, h6'⟩ := six_of (w := w) (by assumption) hb; simp only [six] at h6)
              | (go_at_call 14; refine (awake_c _).mono ?_; rintro e w3 ⟨rfl, hb3⟩))
            go_ret
            refine ⟨rfl, ?_⟩
            repeat (first | assumption | refine Below.trans ?_ (Below.mono (by assumption) (by omega))))
      | (
          go_cut [] (fun W' => Below w.heap.size w W' ∧ w.heap.size + 6 ≤ W'.heap.size ∧ W'.cell? ⟨w.heap.size, 0, none⟩ = some (.int .i64 3) ∧ W'.cell? ⟨w.heap.size, 1, none⟩ = some (.int .i64 1) ∧ W'.cell? ⟨w.heap.size, 2, none⟩ = some (.int .i64 2) ∧ W'.cell? ⟨w.heap.size, 3, none⟩ = some (.int .i64 0) ∧ W'.cell? ⟨w.heap.size, 4, none⟩ = some (.int .i64 a) ∧ W'.cell? ⟨w.heap.size, 5, none⟩ = some (.int .i64 x) ∧ W'.cell? ⟨w.heap.size, 6, none⟩ = some (.int .i64 til) ∧ W'.cell? ⟨w.heap.size, 7, none⟩ = some (.int .i64 0) ∧ W'.cell? ⟨w.heap.size, 8, none⟩ = some (.int .i64 0) ∧ W'.cell? ⟨w.heap.size + 1, 0, none⟩ = some (.int .i64 3) ∧ W'.cell? ⟨w.heap.size + 1, 1, none⟩ = some (.int .i64 5) ∧ W'.cell? ⟨w.heap.size + 1, 2, none⟩ = some (.int .i64 0) ∧ W'.cell? ⟨w.heap.size + 1, 3, none⟩ = some (.int .i64 0) ∧ W'.cell? ⟨w.heap.size + 1, 4, none⟩ = some (.int .i64 b) ∧ W'.cell? ⟨w.heap.size + 1, 5, none⟩ = some (.int .i64 x) ∧ W'.cell? ⟨w.heap.size + 1, 6, none⟩ = some (.int .i64 til) ∧ W'.cell? ⟨w.heap.size + 1, 7, none⟩ = some (.int .i64 1) ∧ W'.cell? ⟨w.heap.size + 1, 8, none⟩ = some (.int .i64 2) ∧ W'.cell? ⟨w.heap.size + 1 + 1, 0, none⟩ = some (.int .i64 3) ∧ W'.cell? ⟨w.heap.size + 1 + 1, 1, none⟩ = some (.int .i64 1) ∧ W'.cell? ⟨w.heap.size + 1 + 1, 2, none⟩ = some (.int .i64 2) ∧ W'.cell? ⟨w.heap.size + 1 + 1, 3, none⟩ = some (.int .i64 0) ∧ W'.cell? ⟨w.heap.size + 1 + 1, 4, none⟩ = some (.int .i64 0) ∧ W'.cell? ⟨w.heap.size + 1 + 1, 5, none⟩ = some (.int .i64 x) ∧ W'.cell? ⟨w.heap.size + 1 + 1, 6, none⟩ = some (.int .i64 til) ∧ W'.cell? ⟨w.heap.size + 1 + 1, 7, none⟩ = some (.int .i64 0) ∧ W'.cell? ⟨w.heap.size + 1 + 1, 8, none⟩ = some (.int .i64 0) ∧ W'.cell? ⟨w.heap.size + 1 + 1 + 1, 0, none⟩ = some (.int .i64 3) ∧ W'.cell? ⟨w.heap.size + 1 + 1 + 1, 1, none⟩ = some (.int .i64 5) ∧ W'.cell? ⟨w.heap.size + 1 + 1 + 1, 2, none⟩ = some (.int .i64 0) ∧ W'.cell? ⟨w.heap.size + 1 + 1 + 1, 3, none⟩ = some (.int .i64 0) ∧ W'.cell? ⟨w.heap.size + 1 + 1 + 1, 4, none⟩ = some (.int .i64 0) ∧ W'.cell? ⟨w.heap.size + 1 + 1 + 1, 5, none⟩ = some (.int .i64 x) ∧ W'.cell? ⟨w.heap.size + 1 + 1 + 1, 6, none⟩ = some (.int .i64 til) ∧ W'.cell? ⟨w.heap.size + 1 + 1 + 1, 7, none⟩ = some (.int .i64 1) ∧ W'.cell? ⟨w.heap.size + 1 + 1 + 1, 8, none⟩ = some (.int .i64 2) ∧ W'.cell? ⟨w.heap.size + 1 + 1 + 1 + 1, 0, none⟩ = some (.int .i64 4) ∧ W'.cell? ⟨w.heap.size + 1 + 1 + 1 + 1, 1, none⟩ = some (.int .i64 5) ∧ W'.cell? ⟨w.heap.size + 1 + 1 + 1 + 1, 2, none⟩ = some (.int .i64 0) ∧ W'.cell? ⟨w.heap.size + 1 + 1 + 1 + 1, 3, none⟩ = some (.int .i64 0) ∧ W'.cell? ⟨w.heap.size + 1 + 1 + 1 + 1, 4, none⟩ = some (.int .i64 a) ∧ W'.cell? ⟨w.heap.size + 1 + 1 + 1 + 1, 5, none⟩ = some (.int .i64 x) ∧ W'.cell? ⟨w.heap.size + 1 + 1 + 1 + 1, 6, none⟩ = some (.int .i64 til) ∧ W'.cell? ⟨w.heap.size + 1 + 1 + 1 + 1, 7, none⟩ = some (.int .i64 1) ∧ W'.cell? ⟨w.heap.size + 1 + 1 + 1 + 1, 8, none⟩ = some (.int .i64 2) ∧ W'.cell? ⟨w.heap.size + 1 + 1 + 1 + 1 + 1, 0, none⟩ = some (.int .i64 3) ∧ W'.cell? ⟨w.heap.size + 1 + 1 + 1 + 1 + 1, 1, none⟩ = some (.int .i64 5) ∧ W'.cell? ⟨w.heap.size + 1 + 1 + 1 + 1 + 1, 2, none⟩ = some (.int .i64 0) ∧ W'.cell? ⟨w.heap.size + 1 + 1 + 1 + 1 + 1, 3, none⟩ = some (.int .i64 0) ∧ W'.cell? ⟨w.heap.size + 1 + 1 + 1 + 1 + 1, 4, none⟩ = some (.int .i64 a) ∧ W'.cell? ⟨w.heap.size + 1 + 1 + 1 + 1 + 1, 5, none⟩ = some (.int .i64 x) ∧ W'.cell? ⟨w.heap.size + 1 + 1 + 1 + 1 + 1, 6, none⟩ = some (.int .i64 (til + 1)) ∧ W'.cell? ⟨w.heap.size + 1 + 1 + 1 + 1 + 1, 7, none⟩ = some (.int .i64 1) ∧ W'.cell? ⟨w.heap.size + 1 + 1 + 1 + 1 + 1, 8, none⟩ = some (.int .i64 2))
          case first =>
            go_wp2
            go_meet
            refine ⟨?_, ?_, ?_⟩
            · repeat (first | exact Below.refl _ _ | apply Below.drew | refine Below.alloc ?_ (by first | exact Nat.le_refl _ | (simp; done) | (simp; omega)) _)
            · simp
            · (repeat' apply And.intro)
              all_goals ((repeat (first | rw [cell_drew] | rw [cell_old _ _ _ _ (by first | exact Nat.lt_succ_self _ | (simp; done) | (simp; omega))])); rw [cell_new _ _ _ _ _ (by first | rfl | simp)]; rfl)
          case rest =>
            obtain ⟨hbw, h6', hfacts⟩ := hcut
            have h6 : w.heap.size < wc.heap.size ∧ w.heap.size + 1 < wc.heap.size ∧ w.heap.size + 1 + 1 < wc.heap.size ∧ w.heap.size + 1 + 1 + 1 < wc.heap.size ∧ w.heap.size + 1 + 1 + 1 + 1 < wc.heap.size ∧ w.heap.size + 1 + 1 + 1 + 1 + 1 < wc.heap.size := by omega
            have hw := within_self x x1 x2
            have n1 : narrowB ⟨3, 5, 0, 0, b, x, til, 1, 2⟩ ⟨3, 1, 2, 0, a, x, til, 0, 0⟩ = (a == b) := by simp only [narrowB, hw]; rw [show (a == b) = (b == a) from Bool.beq_comm]; simp; omega
            have n2 : narrowB ⟨3, 5, 0, 0, b, x, til, 1, 2⟩ ⟨3, 1, 2, 0, 0, x, til, 0, 0⟩ = true := by simp [narrowB, hw]
            have n3 : narrowB ⟨3, 5, 0, 0, 0, x, til, 1, 2⟩ ⟨3, 1, 2, 0, 0, x, til, 0, 0⟩ = true := by simp [narrowB, hw]
            have n4 : narrowB ⟨3, 5, 0, 0, 0, x, til, 1, 2⟩ ⟨3, 1, 2, 0, a, x, til, 0, 0⟩ = false := by simp [narrowB, hw]; omega
            have n5 : narrowB ⟨3, 5, 0, 0, a, x, (til + 1), 1, 2⟩ ⟨3, 1, 2, 0, a, x, til, 0, 0⟩ = false := by simp [narrowB, hw]; omega
            have n6 : narrowB ⟨4, 5, 0, 0, a, x, til, 1, 2⟩ ⟨3, 1, 2, 0, a, x, til, 0, 0⟩ = false := by simp [narrowB, hw]
            clear hw
            go_wp2_with (first
              | (go_at_call 12; refine (narrower_l _ _ _ _ _ _ _ _ _ _ _ _ _ _ _ _ _ _ _).mono ?_; rintro e w1 ⟨rfl, hb⟩; obtain ⟨hc, hf⟩ := bcell hb; obtain ⟨h6, h6'⟩ := six_of (w := w) (by assumption) hb; simp only [six] at h6)
              | (go_at_call 14; refine (awake_c _).mono ?_; rintro e w3 ⟨rfl, hb3⟩))
            go_ret
            refine ⟨rfl, ?_⟩
            repeat (first | assumption | refine Below.trans ?_ (Below.mono (by assumption) (by omega))))
      | (
          go_cut [] (fun W' => Below w.heap.size w W' ∧ w.heap.size + 6 ≤ W'.heap.size ∧ W'.cell? ⟨w.heap.size, 0, none⟩ = some (.int .i64 3) ∧ W'.cell? ⟨w.heap.size, 1, none⟩ = some (.int .i64 1) ∧ W'.cell? ⟨w.heap.size, 2, none⟩ = some (.int .i64 2) ∧ W'.cell? ⟨w.heap.size, 3, none⟩ = some (.int .i64 0) ∧ W'.cell? ⟨w.heap.size, 4, none⟩ = some (.int .i64 a) ∧ W'.cell? ⟨w.heap.size, 5, none⟩ = some (.int .i64 x) ∧ W'.cell? ⟨w.heap.size, 6, none⟩ = some (.int .i64 til) ∧ W'.cell? ⟨w.heap.size, 7, none⟩ = some (.int .i64 0) ∧ W'.cell? ⟨w.heap.size, 8, none⟩ = some (.int .i64 0) ∧ W'.cell? ⟨w.heap.size + 1, 0, none⟩ = some (.int .i64 3) ∧ W'.cell? ⟨w.heap.size + 1, 1, none⟩ = some (.int .i64 5) ∧ W'.cell? ⟨w.heap.size + 1, 2, none⟩ = some (.int .i64 0) ∧ W'.cell? ⟨w.heap.size + 1, 3, none⟩ = some (.int .i64 0) ∧ W'.cell? ⟨w.heap.size + 1, 4, none⟩ = some (.int .i64 b) ∧ W'.cell? ⟨w.heap.size + 1, 5, none⟩ = some (.int .i64 x) ∧ W'.cell? ⟨w.heap.size + 1, 6, none⟩ = some (.int .i64 til) ∧ W'.cell? ⟨w.heap.size + 1, 7, none⟩ = some (.int .i64 1) ∧ W'.cell? ⟨w.heap.size + 1, 8, none⟩ = some (.int .i64 2) ∧ W'.cell? ⟨w.heap.size + 1 + 1, 0, none⟩ = some (.int .i64 3) ∧ W'.cell? ⟨w.heap.size + 1 + 1, 1, none⟩ = some (.int .i64 5) ∧ W'.cell? ⟨w.heap.size + 1 + 1, 2, none⟩ = some (.int .i64 0) ∧ W'.cell? ⟨w.heap.size + 1 + 1, 3, none⟩ = some (.int .i64 0) ∧ W'.cell? ⟨w.heap.size + 1 + 1, 4, none⟩ = some (.int .i64 0) ∧ W'.cell? ⟨w.heap.size + 1 + 1, 5, none⟩ = some (.int .i64 x) ∧ W'.cell? ⟨w.heap.size + 1 + 1, 6, none⟩ = some (.int .i64 til) ∧ W'.cell? ⟨w.heap.size + 1 + 1, 7, none⟩ = some (.int .i64 1) ∧ W'.cell? ⟨w.heap.size + 1 + 1, 8, none⟩ = some (.int .i64 2) ∧ W'.cell? ⟨w.heap.size + 1 + 1 + 1, 0, none⟩ = some (.int .i64 3) ∧ W'.cell? ⟨w.heap.size + 1 + 1 + 1, 1, none⟩ = some (.int .i64 1) ∧ W'.cell? ⟨w.heap.size + 1 + 1 + 1, 2, none⟩ = some (.int .i64 2) ∧ W'.cell? ⟨w.heap.size + 1 + 1 + 1, 3, none⟩ = some (.int .i64 0) ∧ W'.cell? ⟨w.heap.size + 1 + 1 + 1, 4, none⟩ = some (.int .i64 0) ∧ W'.cell? ⟨w.heap.size + 1 + 1 + 1, 5, none⟩ = some (.int .i64 x) ∧ W'.cell? ⟨w.heap.size + 1 + 1 + 1, 6, none⟩ = some (.int .i64 til) ∧ W'.cell? ⟨w.heap.size + 1 + 1 + 1, 7, none⟩ = some (.int .i64 0) ∧ W'.cell? ⟨w.heap.size + 1 + 1 + 1, 8, none⟩ = some (.int .i64 0) ∧ W'.cell? ⟨w.heap.size + 1 + 1 + 1 + 1, 0, none⟩ = some (.int .i64 3) ∧ W'.cell? ⟨w.heap.size + 1 + 1 + 1 + 1, 1, none⟩ = some (.int .i64 5) ∧ W'.cell? ⟨w.heap.size + 1 + 1 + 1 + 1, 2, none⟩ = some (.int .i64 0) ∧ W'.cell? ⟨w.heap.size + 1 + 1 + 1 + 1, 3, none⟩ = some (.int .i64 0) ∧ W'.cell? ⟨w.heap.size + 1 + 1 + 1 + 1, 4, none⟩ = some (.int .i64 a) ∧ W'.cell? ⟨w.heap.size + 1 + 1 + 1 + 1, 5, none⟩ = some (.int .i64 x) ∧ W'.cell? ⟨w.heap.size + 1 + 1 + 1 + 1, 6, none⟩ = some (.int .i64 (til + 1)) ∧ W'.cell? ⟨w.heap.size + 1 + 1 + 1 + 1, 7, none⟩ = some (.int .i64 1) ∧ W'.cell? ⟨w.heap.size + 1 + 1 + 1 + 1, 8, none⟩ = some (.int .i64 2) ∧ W'.cell? ⟨w.heap.size + 1 + 1 + 1 + 1 + 1, 0, none⟩ = some (.int .i64 4) ∧ W'.cell? ⟨w.heap.size + 1 + 1 + 1 + 1 + 1, 1, none⟩ = some (.int .i64 5) ∧ W'.cell? ⟨w.heap.size + 1 + 1 + 1 + 1 + 1, 2, none⟩ = some (.int .i64 0) ∧ W'.cell? ⟨w.heap.size + 1 + 1 + 1 + 1 + 1, 3, none⟩ = some (.int .i64 0) ∧ W'.cell? ⟨w.heap.size + 1 + 1 + 1 + 1 + 1, 4, none⟩ = some (.int .i64 a) ∧ W'.cell? ⟨w.heap.size + 1 + 1 + 1 + 1 + 1, 5, none⟩ = some (.int .i64 x) ∧ W'.cell? ⟨w.heap.size + 1 + 1 + 1 + 1 + 1, 6, none⟩ = some (.int .i64 til) ∧ W'.cell? ⟨w.heap.size + 1 + 1 + 1 + 1 + 1, 7, none⟩ = some (.int .i64 1) ∧ W'.cell? ⟨w.heap.size + 1 + 1 + 1 + 1 + 1, 8, none⟩ = some (.int .i64 2))
          case first =>
            go_wp2
            go_meet
            refine ⟨?_, ?_, ?_⟩
            · repeat (first | exact Below.refl _ _ | apply Below.drew | refine Below.alloc ?_ (by first | exact Nat.le_refl _ | (simp; done) | (simp; omega)) _)
            · simp
            · (repeat' apply And.intro)
              all_goals ((repeat (first | rw [cell_drew] | rw [cell_old _ _ _ _ (by first | exact Nat.lt_succ_self _ | (simp; done) | (simp; omega))])); rw [cell_new _ _ _ _ _ (by first | rfl | simp)]; rfl)
          case rest =>
            obtain ⟨hbw, h6', hfacts⟩ := hcut
            have h6 : w.heap.size < wc.heap.size ∧ w.heap.size + 1 < wc.heap.size ∧ w.heap.size + 1 + 1 < wc.heap.size ∧ w.heap.size + 1 + 1 + 1 < wc.heap.size ∧ w.heap.size + 1 + 1 + 1 + 1 < wc.heap.size ∧ w.heap.size + 1 + 1 + 1 + 1 + 1 < wc.heap.size := by omega
            have hw := within_self x x1 x2
            have n1 : narrowB ⟨3, 5, 0, 0, b, x, til, 1, 2⟩ ⟨3, 1, 2, 0, a, x, til, 0, 0⟩ = (a == b) := by simp only [narrowB, hw]; rw [show (a == b) = (b == a) from Bool.beq_comm]; simp; omega
            have n2 : narrowB ⟨3, 5, 0, 0, b, x, til, 1, 2⟩ ⟨3, 1, 2, 0, 0, x, til, 0, 0⟩ = true := by simp [narrowB, hw]
            have n3 : narrowB ⟨3, 5, 0, 0, 0, x, til, 1, 2⟩ ⟨3, 1, 2, 0, 0, x, til, 0, 0⟩ = true := by simp [narrowB, hw]
            have n4 : narrowB ⟨3, 5, 0, 0, 0, x, til, 1, 2⟩ ⟨3, 1, 2, 0, a, x, til, 0, 0⟩ = false := by simp [narrowB, hw]; omega
            have n5 : narrowB ⟨3, 5, 0, 0, a, x, (til + 1), 1, 2⟩ ⟨3, 1, 2, 0, a, x, til, 0, 0⟩ = false := by simp [narrowB, hw]; omega
            have n6 : narrowB ⟨4, 5, 0, 0, a, x, til, 1, 2⟩ ⟨3, 1, 2, 0, a, x, til, 0, 0⟩ = false := by simp [narrowB, hw]
            clear hw
            go_wp2_with (first
              | (go_at_call 12; refine (narrower_l _ _ _ _ _ _ _ _ _ _ _ _ _ _ _ _ _ _ _).mono ?_; rintro e w1 ⟨rfl, hb⟩; obtain ⟨hc, hf⟩ := bcell hb; obtain ⟨h6, h6'⟩ := six_of (w := w) (by assumption) hb; simp only [six] at h6)
              | (go_at_call 14; refine (awake_c _).mono ?_; rintro e w3 ⟨rfl, hb3⟩))
            go_ret
            refine ⟨rfl, ?_⟩
            repeat (first | assumption | refine Below.trans ?_ (Below.mono (by assumption) (by omega))))
      | (
          go_cut [] (fun W' => Below w.heap.size w W' ∧ w.heap.size + 6 ≤ W'.heap.size ∧ W'.cell? ⟨w.heap.size, 0, none⟩ = some (.int .i64 3) ∧ W'.cell? ⟨w.heap.size, 1, none⟩ = some (.int .i64 1) ∧ W'.cell? ⟨w.heap.size, 2, none⟩ = some (.int .i64 2) ∧ W'.cell? ⟨w.heap.size, 3, none⟩ = some (.int .i64 0) ∧ W'.cell? ⟨w.heap.size, 4, none⟩ = some (.int .i64 a) ∧ W'.cell? ⟨w.heap.size, 5, none⟩ = some (.int .i64 x) ∧ W'.cell? ⟨w.heap.size, 6, none⟩ = some (.int .i64 til) ∧ W'.cell? ⟨w.heap.size, 7, none⟩ = some (.int .i64 0) ∧ W'.cell? ⟨w.heap.size, 8, none⟩ = some (.int .i64 0) ∧ W'.cell? ⟨w.heap.size + 1, 0, none⟩ = some (.int .i64 3) ∧ W'.cell? ⟨w.heap.size + 1, 1, none⟩ = some (.int .i64 5) ∧ W'.cell? ⟨w.heap.size + 1, 2, none⟩ = some (.int .i64 0) ∧ W'.cell? ⟨w.heap.size + 1, 3, none⟩ = some (.int .i64 0) ∧ W'.cell? ⟨w.heap.size + 1, 4, none⟩ = some (.int .i64 b) ∧ W'.cell? ⟨w.heap.size + 1, 5, none⟩ = some (.int .i64 x) ∧ W'.cell? ⟨w.heap.size + 1, 6, none⟩ = some (.int .i64 til) ∧ W'.cell? ⟨w.heap.size + 1, 7, none⟩ = some (.int .i64 1) ∧ W'.cell? ⟨w.heap.size + 1, 8, none⟩ = some (.int .i64 2) ∧ W'.cell? ⟨w.heap.size + 1 + 1, 0, none⟩ = some (.int .i64 3) ∧ W'.cell? ⟨w.heap.size + 1 + 1, 1, none⟩ = some (.int .i64 5) ∧ W'.cell? ⟨w.heap.size + 1 + 1, 2, none⟩ = some (.int .i64 0) ∧ W'.cell? ⟨w.heap.size + 1 + 1, 3, none⟩ = some (.int .i64 0) ∧ W'.cell? ⟨w.heap.size + 1 + 1, 4, none⟩ = some (.int .i64 0) ∧ W'.cell? ⟨w.heap.size + 1 + 1, 5, none⟩ = some (.int .i64 x) ∧ W'.cell? ⟨w.heap.size + 1 + 1, 6, none⟩ = some (.int .i64 til) ∧ W'.cell? ⟨w.heap.size + 1 + 1, 7, none⟩ = some (.int .i64 1) ∧ W'.cell? ⟨w.heap.size + 1 + 1, 8, none⟩ = some (.int .i64 2) ∧ W'.cell? ⟨w.heap.size + 1 + 1 + 1, 0, none⟩ = some (.int .i64 3) ∧ W'.cell? ⟨w.heap.size + 1 + 1 + 1, 1, none⟩ = some (.int .i64 1) ∧ W'.cell? ⟨w.heap.size + 1 + 1 + 1, 2, none⟩ = some (.int .i64 2) ∧ W'.cell? ⟨w.heap.size + 1 + 1 + 1, 3, none⟩ = some (.int .i64 0) ∧ W'.cell? ⟨w.heap.size + 1 + 1 + 1, 4, none⟩ = some (.int .i64 0) ∧ W'.cell? ⟨w.heap.size + 1 + 1 + 1, 5, none⟩ = some (.int .i64 x) ∧ W'.cell? ⟨w.heap.size + 1 + 1 + 1, 6, none⟩ = some (.int .i64 til) ∧ W'.cell? ⟨w.heap.size + 1 + 1 + 1, 7, none⟩ = some (.int .i64 0) ∧ W'.cell? ⟨w.heap.size + 1 + 1 + 1, 8, none⟩ = some (.int .i64 0) ∧ W'.cell? ⟨w.heap.size + 1 + 1 + 1 + 1, 0, none⟩ = some (.int .i64 4) ∧ W'.cell? ⟨w.heap.size + 1 + 1 + 1 + 1, 1, none⟩ = some (.int .i64 5) ∧ W'.cell? ⟨w.heap.size + 1 + 1 + 1 + 1, 2, none⟩ = some (.int .i64 0) ∧ W'.cell? ⟨w.heap.size + 1 + 1 + 1 + 1, 3, none⟩ = some (.int .i64 0) ∧ W'.cell? ⟨w.heap.size + 1 + 1 + 1 + 1, 4, none⟩ = some (.int .i64 a) ∧ W'.cell? ⟨w.heap.size + 1 + 1 + 1 + 1, 5, none⟩ = some (.int .i64 x) ∧ W'.cell? ⟨w.heap.size + 1 + 1 + 1 + 1, 6, none⟩ = some (.int .i64 til) ∧ W'.cell? ⟨w.heap.size + 1 + 1 + 1 + 1, 7, none⟩ = some (.int .i64 1) ∧ W'.cell? ⟨w.heap.size + 1 + 1 + 1 + 1, 8, none⟩ = some (.int .i64 2) ∧ W'.cell? ⟨w.heap.size + 1 + 1 + 1 + 1 + 1, 0, none⟩ = some (.int .i64 3) ∧ W'.cell? ⟨w.heap.size + 1 + 1 + 1 + 1 + 1, 1, none⟩ = some (.int .i64 5) ∧ W'.cell? ⟨w.heap.size + 1 + 1 + 1 + 1 + 1, 2, none⟩ = some (.int .i64 0) ∧ W'.cell? ⟨w.heap.size + 1 + 1 + 1 + 1 + 1, 3, none⟩ = some (.int .i64 0) ∧ W'.cell? ⟨w.heap.size + 1 + 1 + 1 + 1 + 1, 4, none⟩ = some (.int .i64 a) ∧ W'.cell? ⟨w.heap.size + 1 + 1 + 1 + 1 + 1, 5, none⟩ = some (.int .i64 x) ∧ W'.cell? ⟨w.heap.size + 1 + 1 + 1 + 1 + 1, 6, none⟩ = some (.int .i64 (til + 1)) ∧ W'.cell? ⟨w.heap.size + 1 + 1 + 1 + 1 + 1, 7, none⟩ = some (.int .i64 1) ∧ W'.cell? ⟨w.heap.size + 1 + 1 + 1 + 1 + 1, 8, none⟩ = some (.int .i64 2))
          case first =>
            go_wp2
            go_meet
            refine ⟨?_, ?_, ?_⟩
            · repeat (first | exact Below.refl _ _ | apply Below.drew | refine Below.alloc ?_ (by first | exact Nat.le_refl _ | (simp; done) | (simp; omega)) _)
            · simp
            · (repeat' apply And.intro)
              all_goals ((repeat (first | rw [cell_drew] | rw [cell_old _ _ _ _ (by first | exact Nat.lt_succ_self _ | (simp; done) | (simp; omega))])); rw [cell_new _ _ _ _ _ (by first | rfl | simp)]; rfl)
          case rest =>
            obtain ⟨hbw, h6', hfacts⟩ := hcut
            have h6 : w.heap.size < wc.heap.size ∧ w.heap.size + 1 < wc.heap.size ∧ w.heap.size + 1 + 1 < wc.heap.size ∧ w.heap.size + 1 + 1 + 1 < wc.heap.size ∧ w.heap.size + 1 + 1 + 1 + 1 < wc.heap.size ∧ w.heap.size + 1 + 1 + 1 + 1 + 1 < wc.heap.size := by omega
            have hw := within_self x x1 x2
            have n1 : narrowB ⟨3, 5, 0, 0, b, x, til, 1, 2⟩ ⟨3, 1, 2, 0, a, x, til, 0, 0⟩ = (a == b) := by simp only [narrowB, hw]; rw [show (a == b) = (b == a) from Bool.beq_comm]; simp; omega
            have n2 : narrowB ⟨3, 5, 0, 0, b, x, til, 1, 2⟩ ⟨3, 1, 2, 0, 0, x, til, 0, 0⟩ = true := by simp [narrowB, hw]
            have n3 : narrowB ⟨3, 5, 0, 0, 0, x, til, 1, 2⟩ ⟨3, 1, 2, 0, 0, x, til, 0, 0⟩ = true := by simp [narrowB, hw]
            have n4 : narrowB ⟨3, 5, 0, 0, 0, x, til, 1, 2⟩ ⟨3, 1, 2, 0, a, x, til, 0, 0⟩ = false := by simp [narrowB, hw]; omega
            have n5 : narrowB ⟨3, 5, 0, 0, a, x, (til + 1), 1, 2⟩ ⟨3, 1, 2, 0, a, x, til, 0, 0⟩ = false := by simp [narrowB, hw]; omega
            have n6 : narrowB ⟨4, 5, 0, 0, a, x, til, 1, 2⟩ ⟨3, 1, 2, 0, a, x, til, 0, 0⟩ = false := by simp [narrowB, hw]
            clear hw
            go_wp2_with (first
              | (go_at_call 12; refine (narrower_l _ _ _ _ _ _ _ _ _ _ _ _ _ _ _ _ _ _ _).mono ?_; rintro e w1 ⟨rfl, hb⟩; obtain ⟨hc, hf⟩ := bcell hb; obtain ⟨h6, h6'⟩ := six_of (w := w) (by assumption) hb; simp only [six] at h6)
              | (go_at_call 14; refine (awake_c _).mono ?_; rintro e w3 ⟨rfl, hb3⟩))
            go_ret
            refine ⟨rfl, ?_⟩
            repeat (first | assumption | refine Below.trans ?_ (Below.mono (by assumption) (by omega))))
end Go.Proofs.Ytniafibckoiakaa
