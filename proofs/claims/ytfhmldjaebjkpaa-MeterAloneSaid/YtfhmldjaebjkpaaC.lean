/- The meter's Tick, Counts and New. Conditions: the meter's cells are as 'MAt' says. -/
import Derived.Test.YtfhmldjaebjkpaaB
namespace Go.Proofs.Ytfhmldjaebjkpaa
open Go.RowKit
structure Chg (g L : Nat) (w w' : World) : Prop where
  os : w'.os = w.os
  tape : w'.tape = w.tape
  output : w'.output = w.output
  size : w'.heap.size = w.heap.size
  block : ∀ b, b ≠ g → b ≠ L → w'.heap[b]? = w.heap[b]?
theorem Chg.refl (g L : Nat) (w : World) : Chg g L w w := ⟨rfl, rfl, rfl, rfl, fun _ _ _ => rfl⟩
theorem Chg.trans {g L : Nat} {a b c : World} (h : Chg g L a b) (k : Chg g L b c) : Chg g L a c :=
  ⟨k.os.trans h.os, k.tape.trans h.tape, k.output.trans h.output, k.size.trans h.size, fun i h1 h2 => (k.block i h1 h2).trans (h.block i h1 h2)⟩
theorem Chg.drewN {g L : Nat} {a b : World} (h : Chg g L a b) (k : Nat) : Chg g L a (b.drewN k) := ⟨h.os, h.tape, h.output, h.size, h.block⟩
theorem Chg.setL {g L : Nat} {a b : World} (h : Chg g L a b) (j : Nat) (v : Value) : Chg g L a (b.setCell ⟨L, j, none⟩ v) :=
  h.trans ⟨rfl, rfl, rfl, by simp [World.setCell], fun i _ h2 => Below.heap_setCell b ⟨L, j, none⟩ v i h2⟩
theorem Chg.setG {g L : Nat} {a b : World} (h : Chg g L a b) (j : Nat) (v : Value) : Chg g L a (b.setCell ⟨g, j, none⟩ v) :=
  h.trans ⟨rfl, rfl, rfl, by simp [World.setCell], fun i h1 _ => Below.heap_setCell b ⟨g, j, none⟩ v i h1⟩
theorem cell_set_ne (w : World) (b j o : Nat) (v : Value) (h : j ≠ o) : (w.setCell ⟨b, j, none⟩ v).cell? ⟨b, o, none⟩ = w.cell? ⟨b, o, none⟩ := by
  unfold World.cell? World.setCell
  simp only [Array.getElem?_modify]
  cases hb : w.heap[b]? with
  | none => simp
  | some x => cases x <;> simp [h]
theorem MAt.setNow {w : World} {g L : Nat} {m : Mt} (h : MAt w g L m) (v : Int) : MAt (w.setCell ⟨g, 3, none⟩ (.int .i64 v)) g L { m with now := v } := by
  obtain ⟨h0, h1, h2, h3, h4, h5, h6, h7, h8, h9⟩ := h
  have hne : ∀ o, (w.setCell ⟨g, 3, none⟩ (.int .i64 v)).cell? ⟨L, o, none⟩ = w.cell? ⟨L, o, none⟩ := fun o => World.cell?_of_block (w := w) (Below.heap_setCell w ⟨g, 3, none⟩ _ L (Ne.symm h7))
  refine ⟨by rw [cell_set_ne _ _ _ _ _ (by decide)]; exact h0, by rw [cell_set_ne _ _ _ _ _ (by decide)]; exact h1, by rw [cell_set_ne _ _ _ _ _ (by decide)]; exact h2, ?_, by rw [cell_set_ne _ _ _ _ _ (by decide)]; exact h4, by rw [World.frozen?_setCell]; exact h5, fun i hi => ⟨by rw [hne]; exact (h6 i hi).1, by rw [World.frozen?_setCell]; exact (h6 i hi).2⟩, h7, h8, h9⟩
  rw [World.cell?_setCell_same' _ _ _ (by rw [h3]; rfl)]
def zt (cs : List Int) (k : Nat) : List Int := List.replicate (2 * k) 0 ++ cs.drop (2 * k)
theorem zt_succ (cs : List Int) (k : Nat) (h : 2 * k + 2 ≤ cs.length) : ((zt cs k).set (k * 2) 0).set (k * 2 + 1) 0 = zt cs (k + 1) := by
  unfold zt
  apply List.ext_getElem?
  intro i
  simp only [List.getElem?_set, List.getElem?_append, List.length_replicate, List.getElem?_replicate, List.getElem?_drop, List.length_set, List.length_append, List.length_drop]
  by_cases h1 : i < 2 * k
  · rw [if_neg (by omega), if_neg (by omega), if_pos h1, if_pos h1, if_pos (by omega), if_pos (by omega)]
  · by_cases h2 : i = k * 2 + 1
    · subst h2
      rw [if_pos rfl, if_pos (by omega), if_pos (by omega), if_pos (by omega)]
    · by_cases h3 : i = k * 2
      · subst h3
        rw [if_neg (by omega), if_pos rfl, if_pos (by omega), if_pos (by omega), if_pos (by omega)]
      · rw [if_neg (by omega), if_neg (by omega), if_neg h1, if_neg (by omega)]
        congr 1
        omega
def tickM (m : Mt) : Mt := if (m.now + 1) % m.win = 0 then { m with now := m.now + 1, cs := List.replicate (2 * m.n) 0 } else { m with now := m.now + 1 }

theorem tick_c (g L : Nat) (m : Mt) (w : World) (h : MAt w g L m) (r1 : 0 ≤ m.now) (r2 : m.now + 1 < 4294967296) (r3 : 1 ≤ m.win) (r4 : m.win ≤ 65535) :
    Calls Try.prog 8 #[.pointer (some ⟨g, 0, none⟩)] w fun e w' => e = .returned (.bool true) ∧ MAt w' g L (tickM m) ∧ Chg g L w w' := by
  have hnow := now_c g L m w h
  have h' := h
  obtain ⟨h0, h1, h2, h3, h4, h5, h6, h7, h8, h9⟩ := h
  have hw0 : (m.win == 0) = false := by simp; omega
  have hw2 : ¬ m.win = 0 := by omega
  have hw3 : ¬ m.win = -1 := by omega
  have hw4 : ¬ m.win < 0 := by omega
  have hs1 : IntKind.i64.wrap (m.now + 1) = m.now + 1 := by rw [IntKind.wrap_i64]; omega
  have hs2 : IntKind.i64.wrap ((m.now + 1).tmod m.win) = (m.now + 1).tmod m.win := by have := tmod_rng (m.now + 1) m.win (by omega); rw [IntKind.wrap_i64]; omega
  have hw1 : (m.win == -1) = false := by simp; omega
  have hset : (w.setCell ⟨g, 3, none⟩ (.int .i64 (m.now + 1))).cell? ⟨g, 0, none⟩ = some (.int .i64 m.win) := by rw [cell_set_ne _ _ _ _ _ (by decide)]; exact h0
  have HN := Lib.hid hnow
  have H' := Lib.hid h'
  have H6 := Lib.hid h6
  clear hnow h6 h7 h8 h'
  have hd1 : decide (4294967296 ≤ m.now + 1) = false := by simp; omega
  cases hz : ((m.now + 1).tmod m.win == 0)
  · go_enter Try.func8, Try.ntmps8
    go_wp2_with (go_at_call 9; refine HN.out.mono ?_; rintro e w' ⟨rfl, rfl⟩)
    go_region_held3 (fun w' => w'.cell? ⟨g, 0, none⟩ = some (.int .i64 m.win)) (first | exact h0 | exact hset) (first | (go_at_call 15; refine (add_c g 3 m.now 1 w.drew h3 h5 (by omega) (by omega)).mono ?_; rintro e w' ⟨rfl, rfl⟩))
    clear hs1 hs2 hw2 hw3 hw4
    have hM1 : MAt (w.setCell ⟨g, 3, none⟩ (.int .i64 (m.now + 1))).drew g L { m with now := m.now + 1 } := MAt.setNow H'.out (m.now + 1)
    have hC1 : Chg g L w (w.setCell ⟨g, 3, none⟩ (.int .i64 (m.now + 1))).drew := ((Chg.refl g L w).setG 3 _).drewN 1
    have HM1 := Lib.hid hM1
    clear hM1
    have hem : (m.now + 1).tmod m.win = (m.now + 1) % m.win := Int.tmod_eq_emod_of_nonneg (by omega)
    have HE := Lib.hid hem
    clear hem hset
    go_wp2_with fail
    go_ret
    refine ⟨rfl, ?_, hC1⟩
    rw [tickM, if_neg (by rw [← HE.out]; exact fun h => by rw [h] at hz; exact absurd hz (by decide))]
    exact HM1.out
  · go_enter Try.func8, Try.ntmps8
    go_wp2_with (go_at_call 9; refine HN.out.mono ?_; rintro e w' ⟨rfl, rfl⟩)
    go_region_held3 (fun w' => w'.cell? ⟨g, 0, none⟩ = some (.int .i64 m.win)) (first | exact h0 | exact hset) (first | (go_at_call 15; refine (add_c g 3 m.now 1 w.drew h3 h5 (by omega) (by omega)).mono ?_; rintro e w' ⟨rfl, rfl⟩))
    clear hs1 hs2 hw2 hw3 hw4
    have hM1 : MAt (w.setCell ⟨g, 3, none⟩ (.int .i64 (m.now + 1))).drew g L { m with now := m.now + 1 } := MAt.setNow H'.out (m.now + 1)
    have hC1 : Chg g L w (w.setCell ⟨g, 3, none⟩ (.int .i64 (m.now + 1))).drew := ((Chg.refl g L w).setG 3 _).drewN 1
    have HM1 := Lib.hid hM1
    clear hM1
    have hem : (m.now + 1).tmod m.win = (m.now + 1) % m.win := Int.tmod_eq_emod_of_nonneg (by omega)
    have HE := Lib.hid hem
    clear hem hset
    go_wp2_with fail
    have h0z : (m.now + 1) % m.win = 0 := by rw [← HE.out]; exact eq_of_beq hz
    have HZ := Lib.hid h0z
    clear h0z
    have hlen : m.cs.length = 2 * m.n := H'.out.2.2.2.2.2.2.2.2.1
    have HL := Lib.hid hlen
    clear hlen
    go_loopw [3, 27] (fun _ i wr => ∃ k : Nat, k ≤ m.n ∧ i = .int .i64 k ∧ MAt wr g L { m with now := m.now + 1, cs := zt m.cs k } ∧ Chg g L w wr) (fun _ i _ => m.n - (intOf i).toNat)
    case atStart =>
      refine ⟨0, by omega, rfl, ?_, hC1⟩
      have := HM1.out
      simpa [zt] using this
    case round =>
      obtain ⟨k, hk, rfl, hM, hC⟩ := hrel
      by_cases hlt : k < m.n
      · have hM2 := MAt.set hM (k * 2) 0 (by dsimp only; omega)
        have hM3 := MAt.set hM2 (k * 2 + 1) 0 (by dsimp only; omega)
        dsimp only at hM3
        rw [zt_succ m.cs k (by have := HL.out; omega)] at hM3
        have HM3 := Lib.hid hM3
        have g4 := hM.2.2.2.2.1
        have g4' := hM2.2.2.2.2.1
        dsimp only at g4 g4'
        obtain ⟨p1, p2⟩ := hM.2.2.2.2.2.2.1 (k * 2) (by dsimp only; omega)
        obtain ⟨p3, p4⟩ := hM2.2.2.2.2.2.2.1 (k * 2 + 1) (by dsimp only; omega)
        dsimp only at p3
        have P1 := Lib.hid p1
        have P3 := Lib.hid p3
        have i1 : (0 : Int) ≤ (k : Int) := by omega
        have i2 : (k : Int) < (m.n : Int) := by omega
        clear hM hM2 hM3 p1 p3
        go_wp2_with (first
          | (go_at_call 14; first
              | ((with_reducible refine (store_c L (k * 2) _ 0 _ P1.out p2).mono ?_); rintro e w' ⟨rfl, rfl⟩)
              | ((with_reducible refine (store_c L (k * 2 + 1) _ 0 _ P3.out p4).mono ?_); rintro e w' ⟨rfl, rfl⟩)))
        go_roundw
        case rel => exact ⟨k + 1, by omega, by go_num, HM3.out, (hC.setL _ _).setL _ _⟩
        case measure => simp [intOf]; omega
      · obtain rfl : k = m.n := by omega
        go_wp2_with fail
        go_ret
        refine ⟨rfl, ?_, hC⟩
        rw [tickM, if_pos HZ.out]
        have e : zt m.cs m.n = List.replicate (2 * m.n) 0 := by unfold zt; rw [← HL.out]; simp
        rw [e] at hM
        exact hM
end Go.Proofs.Ytfhmldjaebjkpaa
