/- The walk of RightsGoOn: it returns true. Conditions: none. -/
import Derived.Test.YtniafibckoiakaaBits
namespace Go.Proofs.Ytniafibckoiakaa
open Go.RowKit
theorem cell_old (w : World) (o : Obj) (b off : Nat) (h : b < w.heap.size) : (w.alloc o).cell? ⟨b, off, none⟩ = w.cell? ⟨b, off, none⟩ :=
  World.cell?_of_block (w := w) (Below.heap_alloc w o b h)
theorem cell_new (w : World) (c : Array Value) (t : TypeId) (b off : Nat) (h : b = w.heap.size) : (w.alloc (.cells c t)).cell? ⟨b, off, none⟩ = c[off]? := by
  subst h
  unfold World.cell? World.alloc
  simp
theorem cell_drew (w : World) (a : Addr) : w.drew.cell? a = w.cell? a := rfl
theorem narrower_g (c1 c2 c3 c4 c5 c6 c7 c8 c9 p1 p2 p3 p4 p5 p6 p7 p8 p9 : Int) (w : World) : Calls Try.prog 12 #[.agg #[.int .i64 c1, .int .i64 c2, .int .i64 c3, .int .i64 c4, .int .i64 c5, .int .i64 c6, .int .i64 c7, .int .i64 c8, .int .i64 c9], .agg #[.int .i64 p1, .int .i64 p2, .int .i64 p3, .int .i64 p4, .int .i64 p5, .int .i64 p6, .int .i64 p7, .int .i64 p8, .int .i64 p9]] w
    fun e w' => e = .returned (.bool (narrowB ⟨c1, c2, c3, c4, c5, c6, c7, c8, c9⟩ ⟨p1, p2, p3, p4, p5, p6, p7, p8, p9⟩)) ∧ Below w.heap.size w w' :=
  narrower_c ⟨c1, c2, c3, c4, c5, c6, c7, c8, c9⟩ ⟨p1, p2, p3, p4, p5, p6, p7, p8, p9⟩ w
def three (w W' : World) : Prop := w.heap.size < W'.heap.size ∧ w.heap.size + 1 < W'.heap.size ∧ w.heap.size + 1 + 1 < W'.heap.size
theorem three_of {w W w1 : World} (h : w.heap.size + 3 ≤ W.heap.size) (hb : Below W.heap.size W w1) : three w w1 ∧ w.heap.size + 3 ≤ w1.heap.size := by
  have := hb.size
  unfold three
  omega
def transB (x y z : Int) : Bool := !(withinB x y && withinB y z) || withinB x z
set_option maxRecDepth 100000 in
theorem trans_all : ∀ x y z : Fin 16, transB (x.val : Int) (y.val : Int) (z.val : Int) = true := by decide +kernel
theorem validB_of {x y : Int} (h : withinB x y = true) : 1 ≤ x ∧ x ≤ 15 ∧ 1 ≤ y ∧ y ≤ 15 := by
  simp [withinB, validB] at h
  omega
theorem within_trans {x y z : Int} (h : withinB x y = true) (k : withinB y z = true) : withinB x z = true := by
  have h1 := validB_of h
  have h2 := validB_of k
  have h3 := trans_all ⟨x.toNat, by omega⟩ ⟨y.toNat, by omega⟩ ⟨z.toNat, by omega⟩
  have e1 : ((x.toNat : Nat) : Int) = x := by omega
  have e2 : ((y.toNat : Nat) : Int) = y := by omega
  have e3 : ((z.toNat : Nat) : Int) = z := by omega
  simp only [e1, e2, e3, transB, h, k] at h3
  simpa using h3
set_option maxRecDepth 100000 in
set_option maxHeartbeats 4000000 in
theorem goOn_c (a1 a2 a3 a4 a5 a6 a7 a8 a9 b1 b2 b3 b4 b5 b6 b7 b8 b9 c1 c2 c3 c4 c5 c6 c7 c8 c9 : Int) (w : World) : Calls Try.prog 4 #[.agg #[.int .i64 a1, .int .i64 a2, .int .i64 a3, .int .i64 a4, .int .i64 a5, .int .i64 a6, .int .i64 a7, .int .i64 a8, .int .i64 a9],
    .agg #[.int .i64 b1, .int .i64 b2, .int .i64 b3, .int .i64 b4, .int .i64 b5, .int .i64 b6, .int .i64 b7, .int .i64 b8, .int .i64 b9], .agg #[.int .i64 c1, .int .i64 c2, .int .i64 c3, .int .i64 c4, .int .i64 c5, .int .i64 c6, .int .i64 c7, .int .i64 c8, .int .i64 c9]] w fun e w' => e = .returned (.bool true) ∧ Below w.heap.size w w' := by
  have ht : withinB a6 b6 = true → withinB b6 c6 = true → withinB a6 c6 = true := within_trans
  have HT := Lib.hid ht
  clear ht
  go_enter Try.func4, Try.ntmps4
  go_upto_region 1 with fail
  go_cut [27] (fun s wx => s = .bool false ∧ wx = ((w.alloc (.cells #[.int .i64 a1, .int .i64 a2, .int .i64 a3, .int .i64 a4, .int .i64 a5, .int .i64 a6, .int .i64 a7, .int .i64 a8, .int .i64 a9] 23)).alloc (.cells #[.int .i64 b1, .int .i64 b2, .int .i64 b3, .int .i64 b4, .int .i64 b5, .int .i64 b6, .int .i64 b7, .int .i64 b8, .int .i64 b9] 23)).alloc (.cells #[.int .i64 c1, .int .i64 c2, .int .i64 c3, .int .i64 c4, .int .i64 c5, .int .i64 c6, .int .i64 c7, .int .i64 c8, .int .i64 c9] 23))
  case first =>
    cases h1 : withinB a6 b6
    · go_wp2_with (go_at_call 9; refine (rWithin_c _ _ _).mono ?_; rintro e w' ⟨rfl, rfl⟩)
      go_meet
      exact ⟨rfl, rfl⟩
    · cases h2 : withinB b6 c6
      · go_wp2_with (go_at_call 9; refine (rWithin_c _ _ _).mono ?_; rintro e w' ⟨rfl, rfl⟩)
        go_meet
        exact ⟨rfl, rfl⟩
      · have h3 := HT.out h1 h2
        go_wp2_with (go_at_call 9; refine (rWithin_c _ _ _).mono ?_; rintro e w' ⟨rfl, rfl⟩)
        go_meet
        exact ⟨rfl, rfl⟩
  case rest =>
    obtain ⟨rfl, rfl⟩ := hcut
    go_upto_region 3 with fail
    go_region
    go_upto_region 4 with fail
    go_cut [] (fun W' => Below w.heap.size w W' ∧ w.heap.size + 3 ≤ W'.heap.size ∧ W'.cell? ⟨w.heap.size, 0, none⟩ = some (.int .i64 a1) ∧ W'.cell? ⟨w.heap.size, 1, none⟩ = some (.int .i64 a2) ∧ W'.cell? ⟨w.heap.size, 2, none⟩ = some (.int .i64 a3) ∧ W'.cell? ⟨w.heap.size, 3, none⟩ = some (.int .i64 a4) ∧ W'.cell? ⟨w.heap.size, 4, none⟩ = some (.int .i64 a5) ∧ W'.cell? ⟨w.heap.size, 5, none⟩ = some (.int .i64 a6) ∧ W'.cell? ⟨w.heap.size, 6, none⟩ = some (.int .i64 a7) ∧ W'.cell? ⟨w.heap.size, 7, none⟩ = some (.int .i64 b2) ∧ W'.cell? ⟨w.heap.size, 8, none⟩ = some (.int .i64 b3) ∧ W'.cell? ⟨w.heap.size + 1, 0, none⟩ = some (.int .i64 b1) ∧ W'.cell? ⟨w.heap.size + 1, 1, none⟩ = some (.int .i64 b2) ∧ W'.cell? ⟨w.heap.size + 1, 2, none⟩ = some (.int .i64 b3) ∧ W'.cell? ⟨w.heap.size + 1, 3, none⟩ = some (.int .i64 b4) ∧ W'.cell? ⟨w.heap.size + 1, 4, none⟩ = some (.int .i64 b5) ∧ W'.cell? ⟨w.heap.size + 1, 5, none⟩ = some (.int .i64 b6) ∧ W'.cell? ⟨w.heap.size + 1, 6, none⟩ = some (.int .i64 b7) ∧ W'.cell? ⟨w.heap.size + 1, 7, none⟩ = some (.int .i64 c2) ∧ W'.cell? ⟨w.heap.size + 1, 8, none⟩ = some (.int .i64 c3) ∧ W'.cell? ⟨w.heap.size + 1 + 1, 0, none⟩ = some (.int .i64 c1) ∧ W'.cell? ⟨w.heap.size + 1 + 1, 1, none⟩ = some (.int .i64 c2) ∧ W'.cell? ⟨w.heap.size + 1 + 1, 2, none⟩ = some (.int .i64 c3) ∧ W'.cell? ⟨w.heap.size + 1 + 1, 3, none⟩ = some (.int .i64 c4) ∧ W'.cell? ⟨w.heap.size + 1 + 1, 4, none⟩ = some (.int .i64 c5) ∧ W'.cell? ⟨w.heap.size + 1 + 1, 5, none⟩ = some (.int .i64 c6) ∧ W'.cell? ⟨w.heap.size + 1 + 1, 6, none⟩ = some (.int .i64 c7) ∧ W'.cell? ⟨w.heap.size + 1 + 1, 7, none⟩ = some (.int .i64 c8) ∧ W'.cell? ⟨w.heap.size + 1 + 1, 8, none⟩ = some (.int .i64 c9))
    case first =>
      go_region
      go_wp2
      go_meet
      refine ⟨?_, ?_, ?_⟩
      · repeat (first | exact Below.refl _ _ | apply Below.drew | refine Below.alloc ?_ (by first | exact Nat.le_refl _ | (simp; done) | (simp; omega)) _)
      · simp
      · (repeat' apply And.intro)
        all_goals ((repeat (first | rw [cell_drew] | rw [cell_old _ _ _ _ (by first | exact Nat.lt_succ_self _ | (simp; done) | (simp; omega))])); rw [cell_new _ _ _ _ _ (by first | rfl | simp)]; rfl)
    case rest =>
      obtain ⟨hbw, h3', hfacts⟩ := hcut
      have h3 : w.heap.size < wc.heap.size ∧ w.heap.size + 1 < wc.heap.size ∧ w.heap.size + 1 + 1 < wc.heap.size := by omega
      have hq : narrowB ⟨a1, a2, a3, a4, a5, a6, a7, b2, b3⟩ ⟨b1, b2, b3, b4, b5, b6, b7, c2, c3⟩ = true → narrowB ⟨b1, b2, b3, b4, b5, b6, b7, c2, c3⟩ ⟨c1, c2, c3, c4, c5, c6, c7, c8, c9⟩ = true → narrowB ⟨a1, a2, a3, a4, a5, a6, a7, c2, c3⟩ ⟨c1, c2, c3, c4, c5, c6, c7, c8, c9⟩ = true ∧ (bits .andNot .i64 a6 c6 == 0) = true ∧ a7 ≤ c7 ∧ (a1 == c1) = true ∧ ((c5 == 0) = true ∨ ((c5 == 0) = false ∧ (a5 == c5) = true)) := by
        intro q1 q2
        simp only [narrowB, Bool.and_eq_true, beq_iff_eq, decide_eq_true_eq, Bool.or_eq_true] at q1 q2 ⊢
        have q3 := within_trans q1.1.1.1.1.2 q2.1.1.1.1.2
        have q4 := q3
        simp only [withinB, Bool.and_eq_true, beq_iff_eq] at q4
        refine ⟨⟨⟨⟨⟨⟨?_, q3⟩, ?_⟩, ?_⟩, trivial⟩, trivial⟩, q4.2, ?_, ?_, ?_⟩ <;> first | omega | (simp; omega)
      have HQ := Lib.hid hq
      clear hq
      cases n1 : narrowB ⟨a1, a2, a3, a4, a5, a6, a7, b2, b3⟩ ⟨b1, b2, b3, b4, b5, b6, b7, c2, c3⟩
      · go_wp2_with (first
          | (go_at_call 12; refine (narrower_g _ _ _ _ _ _ _ _ _ _ _ _ _ _ _ _ _ _ _).mono ?_; rintro e w1 ⟨rfl, hb⟩; obtain ⟨hc, hf⟩ := bcell hb; obtain ⟨h3, h3'⟩ := three_of (w := w) (by assumption) hb; simp only [three] at h3)
          | (go_at_call 14; refine (awake_c _).mono ?_; rintro e w3 ⟨rfl, hb3⟩))
        go_ret
        refine ⟨rfl, ?_⟩
        repeat (first | assumption | refine Below.trans ?_ (Below.mono (by assumption) (by omega)))
      · cases n2 : narrowB ⟨b1, b2, b3, b4, b5, b6, b7, c2, c3⟩ ⟨c1, c2, c3, c4, c5, c6, c7, c8, c9⟩
        · go_wp2_with (first
            | (go_at_call 12; refine (narrower_g _ _ _ _ _ _ _ _ _ _ _ _ _ _ _ _ _ _ _).mono ?_; rintro e w1 ⟨rfl, hb⟩; obtain ⟨hc, hf⟩ := bcell hb; obtain ⟨h3, h3'⟩ := three_of (w := w) (by assumption) hb; simp only [three] at h3)
            | (go_at_call 14; refine (awake_c _).mono ?_; rintro e w3 ⟨rfl, hb3⟩))
          go_ret
          refine ⟨rfl, ?_⟩
          repeat (first | assumption | refine Below.trans ?_ (Below.mono (by assumption) (by omega)))
        · obtain ⟨q1, q2, q3, q4, q5⟩ := HQ.out n1 n2
          go_upto_region 8 with (go_at_call 12; refine (narrower_g _ _ _ _ _ _ _ _ _ _ _ _ _ _ _ _ _ _ _).mono ?_; rintro e w1 ⟨rfl, hb⟩; obtain ⟨hc, hf⟩ := bcell hb; obtain ⟨h3, h3'⟩ := three_of (w := w) (by assumption) hb; simp only [three] at h3)
          have hbw1 : Below w.heap.size w w1 := by repeat (first | assumption | refine Below.trans ?_ (Below.mono (by assumption) (by omega)))
          go_cut [] (fun W' => Below w.heap.size w W' ∧ w1.heap.size + 1 ≤ W'.heap.size ∧ W'.cell? ⟨w.heap.size, 0, none⟩ = some (.int .i64 a1) ∧ W'.cell? ⟨w.heap.size, 1, none⟩ = some (.int .i64 a2) ∧ W'.cell? ⟨w.heap.size, 2, none⟩ = some (.int .i64 a3) ∧ W'.cell? ⟨w.heap.size, 3, none⟩ = some (.int .i64 a4) ∧ W'.cell? ⟨w.heap.size, 4, none⟩ = some (.int .i64 a5) ∧ W'.cell? ⟨w.heap.size, 5, none⟩ = some (.int .i64 a6) ∧ W'.cell? ⟨w.heap.size, 6, none⟩ = some (.int .i64 a7) ∧ W'.cell? ⟨w.heap.size, 7, none⟩ = some (.int .i64 b2) ∧ W'.cell? ⟨w.heap.size, 8, none⟩ = some (.int .i64 b3) ∧ W'.cell? ⟨w.heap.size + 1, 0, none⟩ = some (.int .i64 b1) ∧ W'.cell? ⟨w.heap.size + 1, 1, none⟩ = some (.int .i64 b2) ∧ W'.cell? ⟨w.heap.size + 1, 2, none⟩ = some (.int .i64 b3) ∧ W'.cell? ⟨w.heap.size + 1, 3, none⟩ = some (.int .i64 b4) ∧ W'.cell? ⟨w.heap.size + 1, 4, none⟩ = some (.int .i64 b5) ∧ W'.cell? ⟨w.heap.size + 1, 5, none⟩ = some (.int .i64 b6) ∧ W'.cell? ⟨w.heap.size + 1, 6, none⟩ = some (.int .i64 b7) ∧ W'.cell? ⟨w.heap.size + 1, 7, none⟩ = some (.int .i64 c2) ∧ W'.cell? ⟨w.heap.size + 1, 8, none⟩ = some (.int .i64 c3) ∧ W'.cell? ⟨w.heap.size + 1 + 1, 0, none⟩ = some (.int .i64 c1) ∧ W'.cell? ⟨w.heap.size + 1 + 1, 1, none⟩ = some (.int .i64 c2) ∧ W'.cell? ⟨w.heap.size + 1 + 1, 2, none⟩ = some (.int .i64 c3) ∧ W'.cell? ⟨w.heap.size + 1 + 1, 3, none⟩ = some (.int .i64 c4) ∧ W'.cell? ⟨w.heap.size + 1 + 1, 4, none⟩ = some (.int .i64 c5) ∧ W'.cell? ⟨w.heap.size + 1 + 1, 5, none⟩ = some (.int .i64 c6) ∧ W'.cell? ⟨w.heap.size + 1 + 1, 6, none⟩ = some (.int .i64 c7) ∧ W'.cell? ⟨w.heap.size + 1 + 1, 7, none⟩ = some (.int .i64 c8) ∧ W'.cell? ⟨w.heap.size + 1 + 1, 8, none⟩ = some (.int .i64 c9) ∧ W'.cell? ⟨w1.heap.size, 0, none⟩ = some (.int .i64 a1) ∧ W'.cell? ⟨w1.heap.size, 1, none⟩ = some (.int .i64 a2) ∧ W'.cell? ⟨w1.heap.size, 2, none⟩ = some (.int .i64 a3) ∧ W'.cell? ⟨w1.heap.size, 3, none⟩ = some (.int .i64 a4) ∧ W'.cell? ⟨w1.heap.size, 4, none⟩ = some (.int .i64 a5) ∧ W'.cell? ⟨w1.heap.size, 5, none⟩ = some (.int .i64 a6) ∧ W'.cell? ⟨w1.heap.size, 6, none⟩ = some (.int .i64 a7) ∧ W'.cell? ⟨w1.heap.size, 7, none⟩ = some (.int .i64 c2) ∧ W'.cell? ⟨w1.heap.size, 8, none⟩ = some (.int .i64 c3))
          case first =>
            go_region
            go_wp2
            go_meet
            refine ⟨?_, ?_, ?_⟩
            · exact (hbw1.alloc (by omega) _).drew
            · simp
            · (repeat' apply And.intro)
              all_goals first
                | (rw [cell_drew, cell_new _ _ _ _ _ rfl]; rfl)
                | (rw [cell_drew, cell_old _ _ _ _ (by omega)]; simp [*]; done)
          case rest =>
            obtain ⟨hbw2, h4', hfacts2⟩ := hcut
            have h4 : w.heap.size < wc.heap.size ∧ w.heap.size + 1 < wc.heap.size ∧ w.heap.size + 1 + 1 < wc.heap.size ∧ w1.heap.size < wc.heap.size := by omega
            clear hfacts
            rcases q5 with q5 | ⟨q5, q6⟩
            all_goals
              go_wp2_with (first
                | (go_at_call 12; refine (narrower_g _ _ _ _ _ _ _ _ _ _ _ _ _ _ _ _ _ _ _).mono ?_; rintro e w2 ⟨rfl, hb⟩; obtain ⟨hc, hf⟩ := bcell hb; have hs2 := hb.size)
                | (go_at_call 14; refine (awake_c _).mono ?_; rintro e w3 ⟨rfl, hb3⟩))
              go_ret
              refine ⟨rfl, ?_⟩
              repeat (first | assumption | refine Below.trans ?_ (Below.mono (by assumption) (by omega)))
end Go.Proofs.Ytniafibckoiakaa
