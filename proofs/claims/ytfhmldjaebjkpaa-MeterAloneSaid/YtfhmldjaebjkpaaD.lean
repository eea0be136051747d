/- The meter's New, without counts. Conditions: the numbers are as New takes them. -/
import Derived.Test.YtfhmldjaebjkpaaC
namespace Go.Proofs.Ytfhmldjaebjkpaa
open Go.RowKit
def m0 (n : Nat) (win rq bt tick : Int) : Mt := ⟨win, rq, bt, tick, n, List.replicate (2 * n) 0⟩
theorem cell_old (w : World) (o : Obj) (b off : Nat) (h : b < w.heap.size) : (w.alloc o).cell? ⟨b, off, none⟩ = w.cell? ⟨b, off, none⟩ :=
  World.cell?_of_block (w := w) (Below.heap_alloc w o b h)
theorem cell_new (w : World) (c : Array Value) (t : TypeId) (b off : Nat) (h : b = w.heap.size) : (w.alloc (.cells c t)).cell? ⟨b, off, none⟩ = c[off]? := by
  subst h
  unfold World.cell? World.alloc
  simp
theorem frozen_out (w : World) (b off : Nat) (h : w.heap.size ≤ b) : w.frozen? ⟨b, off, none⟩ = false := by
  unfold World.frozen?
  rw [Array.getElem?_eq_none h]

theorem new_2 (win rq bt tick : Int) (w : World) (h1 : 1 ≤ win) (h2 : win ≤ 65535) (h3 : 0 ≤ rq) (h4 : rq ≤ 65535) (h5 : 0 ≤ bt) (h6 : bt ≤ 65535) (h7 : 0 ≤ tick) (h8 : tick ≤ 4294967295) :
    Calls Try.prog 6 #[.int .i64 2, .int .i64 win, .int .i64 rq, .int .i64 bt, .int .i64 tick, .slice none 0 0] w
      fun e w' => e = .returned (.tuple #[.pointer (some ⟨w.heap.size + 1, 0, none⟩), .int .i64 0]) ∧ MAt w' (w.heap.size + 1) w.heap.size (m0 2 win rq bt tick) ∧ Below w.heap.size w w' ∧ w.heap.size + 2 ≤ w'.heap.size := by
  have hmk : ∀ w : World, (Instr.makeSlice 43 (.int .i64 2) (.int .i64 2)).run Try.prog w = .ok (.slice (some ⟨w.heap.size, 0, none⟩) 2 2) (w.alloc (.cells #[.int .i64 0, .int .i64 0, .int .i64 0, .int .i64 0] 53)) := fun _ => by kernel_rfl
  have hc3 : ((w.alloc (.cells #[.int .i64 0, .int .i64 0, .int .i64 0, .int .i64 0] 53)).alloc (.cells #[.int .i64 win, .int .i64 rq, .int .i64 bt, .int .i64 0, .slice (some ⟨w.heap.size, 0, none⟩) 2 2] 50)).cell? ⟨w.heap.size + 1, 3, none⟩ = some (.int .i64 0) := by
    rw [cell_new _ _ _ _ _ (by simp)]; rfl
  have hf3 : ((w.alloc (.cells #[.int .i64 0, .int .i64 0, .int .i64 0, .int .i64 0] 53)).alloc (.cells #[.int .i64 win, .int .i64 rq, .int .i64 bt, .int .i64 0, .slice (some ⟨w.heap.size, 0, none⟩) 2 2] 50)).frozen? ⟨w.heap.size + 1, 3, none⟩ = false := by
    rw [frozen?_alloc_cells, frozen?_alloc_cells]; exact frozen_out _ _ _ (by omega)
  go_enter Try.func6, Try.ntmps6
  go_wp2_with (first
    | (go_at_call 13; refine (within_c _ _ _ _).mono ?_; rintro e w' ⟨rfl, rfl⟩)
    | (go_at_call 14; refine (store_c _ _ (.int .i64 0) _ _ hc3 hf3).mono ?_; rintro e w' ⟨rfl, rfl⟩))
  go_loop [55] (fun i => i = .int .i64 0) (fun _ => 0)
  case atStart => exact rfl
  case round =>
    subst hrel
    go_wp2_with fail
    go_ret2
    refine ⟨rfl, ⟨?_, ?_, ?_, ?_, ?_, ?_, ?_, by omega, rfl, (by decide : 2 ≤ 16)⟩, ((Below.refl _ _).alloc (Nat.le_refl _) _).alloc (by simp) _, by simp⟩
    · rw [cell_new _ _ _ _ _ (by simp)]; rfl
    · rw [cell_new _ _ _ _ _ (by simp)]; rfl
    · rw [cell_new _ _ _ _ _ (by simp)]; rfl
    · rw [cell_new _ _ _ _ _ (by simp)]; rfl
    · rw [cell_new _ _ _ _ _ (by simp)]; rfl
    · rw [frozen?_alloc_cells, frozen?_alloc_cells]; exact frozen_out _ _ _ (by omega)
    · intro j hj
      have hj : j < 4 := hj
      refine ⟨?_, by rw [frozen?_alloc_cells, frozen?_alloc_cells]; exact frozen_out _ _ _ (by omega)⟩
      rw [cell_old _ _ _ _ (by simp), cell_new _ _ _ _ _ rfl]
      rcases (by omega : j = 0 ∨ j = 1 ∨ j = 2 ∨ j = 3) with rfl | rfl | rfl | rfl <;> rfl

theorem new_3 (win rq bt tick : Int) (w : World) (h1 : 1 ≤ win) (h2 : win ≤ 65535) (h3 : 0 ≤ rq) (h4 : rq ≤ 65535) (h5 : 0 ≤ bt) (h6 : bt ≤ 65535) (h7 : 0 ≤ tick) (h8 : tick ≤ 4294967295) :
    Calls Try.prog 6 #[.int .i64 3, .int .i64 win, .int .i64 rq, .int .i64 bt, .int .i64 tick, .slice none 0 0] w
      fun e w' => e = .returned (.tuple #[.pointer (some ⟨w.heap.size + 1, 0, none⟩), .int .i64 0]) ∧ MAt w' (w.heap.size + 1) w.heap.size (m0 3 win rq bt tick) ∧ Below w.heap.size w w' ∧ w.heap.size + 2 ≤ w'.heap.size := by
  have hmk : ∀ w : World, (Instr.makeSlice 43 (.int .i64 3) (.int .i64 3)).run Try.prog w = .ok (.slice (some ⟨w.heap.size, 0, none⟩) 3 3) (w.alloc (.cells #[.int .i64 0, .int .i64 0, .int .i64 0, .int .i64 0, .int .i64 0, .int .i64 0] 53)) := fun _ => by kernel_rfl
  have hc3 : ((w.alloc (.cells #[.int .i64 0, .int .i64 0, .int .i64 0, .int .i64 0, .int .i64 0, .int .i64 0] 53)).alloc (.cells #[.int .i64 win, .int .i64 rq, .int .i64 bt, .int .i64 0, .slice (some ⟨w.heap.size, 0, none⟩) 3 3] 50)).cell? ⟨w.heap.size + 1, 3, none⟩ = some (.int .i64 0) := by
    rw [cell_new _ _ _ _ _ (by simp)]; rfl
  have hf3 : ((w.alloc (.cells #[.int .i64 0, .int .i64 0, .int .i64 0, .int .i64 0, .int .i64 0, .int .i64 0] 53)).alloc (.cells #[.int .i64 win, .int .i64 rq, .int .i64 bt, .int .i64 0, .slice (some ⟨w.heap.size, 0, none⟩) 3 3] 50)).frozen? ⟨w.heap.size + 1, 3, none⟩ = false := by
    rw [frozen?_alloc_cells, frozen?_alloc_cells]; exact frozen_out _ _ _ (by omega)
  go_enter Try.func6, Try.ntmps6
  go_wp2_with (first
    | (go_at_call 13; refine (within_c _ _ _ _).mono ?_; rintro e w' ⟨rfl, rfl⟩)
    | (go_at_call 14; refine (store_c _ _ (.int .i64 0) _ _ hc3 hf3).mono ?_; rintro e w' ⟨rfl, rfl⟩))
  go_loop [55] (fun i => i = .int .i64 0) (fun _ => 0)
  case atStart => exact rfl
  case round =>
    subst hrel
    go_wp2_with fail
    go_ret2
    refine ⟨rfl, ⟨?_, ?_, ?_, ?_, ?_, ?_, ?_, by omega, rfl, (by decide : 3 ≤ 16)⟩, ((Below.refl _ _).alloc (Nat.le_refl _) _).alloc (by simp) _, by simp⟩
    · rw [cell_new _ _ _ _ _ (by simp)]; rfl
    · rw [cell_new _ _ _ _ _ (by simp)]; rfl
    · rw [cell_new _ _ _ _ _ (by simp)]; rfl
    · rw [cell_new _ _ _ _ _ (by simp)]; rfl
    · rw [cell_new _ _ _ _ _ (by simp)]; rfl
    · rw [frozen?_alloc_cells, frozen?_alloc_cells]; exact frozen_out _ _ _ (by omega)
    · intro j hj
      have hj : j < 6 := hj
      refine ⟨?_, by rw [frozen?_alloc_cells, frozen?_alloc_cells]; exact frozen_out _ _ _ (by omega)⟩
      rw [cell_old _ _ _ _ (by simp), cell_new _ _ _ _ _ rfl]
      rcases (by omega : j = 0 ∨ j = 1 ∨ j = 2 ∨ j = 3 ∨ j = 4 ∨ j = 5) with rfl | rfl | rfl | rfl | rfl | rfl <;> rfl

theorem new_4 (win rq bt tick : Int) (w : World) (h1 : 1 ≤ win) (h2 : win ≤ 65535) (h3 : 0 ≤ rq) (h4 : rq ≤ 65535) (h5 : 0 ≤ bt) (h6 : bt ≤ 65535) (h7 : 0 ≤ tick) (h8 : tick ≤ 4294967295) :
    Calls Try.prog 6 #[.int .i64 4, .int .i64 win, .int .i64 rq, .int .i64 bt, .int .i64 tick, .slice none 0 0] w
      fun e w' => e = .returned (.tuple #[.pointer (some ⟨w.heap.size + 1, 0, none⟩), .int .i64 0]) ∧ MAt w' (w.heap.size + 1) w.heap.size (m0 4 win rq bt tick) ∧ Below w.heap.size w w' ∧ w.heap.size + 2 ≤ w'.heap.size := by
  have hmk : ∀ w : World, (Instr.makeSlice 43 (.int .i64 4) (.int .i64 4)).run Try.prog w = .ok (.slice (some ⟨w.heap.size, 0, none⟩) 4 4) (w.alloc (.cells #[.int .i64 0, .int .i64 0, .int .i64 0, .int .i64 0, .int .i64 0, .int .i64 0, .int .i64 0, .int .i64 0] 53)) := fun _ => by kernel_rfl
  have hc3 : ((w.alloc (.cells #[.int .i64 0, .int .i64 0, .int .i64 0, .int .i64 0, .int .i64 0, .int .i64 0, .int .i64 0, .int .i64 0] 53)).alloc (.cells #[.int .i64 win, .int .i64 rq, .int .i64 bt, .int .i64 0, .slice (some ⟨w.heap.size, 0, none⟩) 4 4] 50)).cell? ⟨w.heap.size + 1, 3, none⟩ = some (.int .i64 0) := by
    rw [cell_new _ _ _ _ _ (by simp)]; rfl
  have hf3 : ((w.alloc (.cells #[.int .i64 0, .int .i64 0, .int .i64 0, .int .i64 0, .int .i64 0, .int .i64 0, .int .i64 0, .int .i64 0] 53)).alloc (.cells #[.int .i64 win, .int .i64 rq, .int .i64 bt, .int .i64 0, .slice (some ⟨w.heap.size, 0, none⟩) 4 4] 50)).frozen? ⟨w.heap.size + 1, 3, none⟩ = false := by
    rw [frozen?_alloc_cells, frozen?_alloc_cells]; exact frozen_out _ _ _ (by omega)
  go_enter Try.func6, Try.ntmps6
  go_wp2_with (first
    | (go_at_call 13; refine (within_c _ _ _ _).mono ?_; rintro e w' ⟨rfl, rfl⟩)
    | (go_at_call 14; refine (store_c _ _ (.int .i64 0) _ _ hc3 hf3).mono ?_; rintro e w' ⟨rfl, rfl⟩))
  go_loop [55] (fun i => i = .int .i64 0) (fun _ => 0)
  case atStart => exact rfl
  case round =>
    subst hrel
    go_wp2_with fail
    go_ret2
    refine ⟨rfl, ⟨?_, ?_, ?_, ?_, ?_, ?_, ?_, by omega, rfl, (by decide : 4 ≤ 16)⟩, ((Below.refl _ _).alloc (Nat.le_refl _) _).alloc (by simp) _, by simp⟩
    · rw [cell_new _ _ _ _ _ (by simp)]; rfl
    · rw [cell_new _ _ _ _ _ (by simp)]; rfl
    · rw [cell_new _ _ _ _ _ (by simp)]; rfl
    · rw [cell_new _ _ _ _ _ (by simp)]; rfl
    · rw [cell_new _ _ _ _ _ (by simp)]; rfl
    · rw [frozen?_alloc_cells, frozen?_alloc_cells]; exact frozen_out _ _ _ (by omega)
    · intro j hj
      have hj : j < 8 := hj
      refine ⟨?_, by rw [frozen?_alloc_cells, frozen?_alloc_cells]; exact frozen_out _ _ _ (by omega)⟩
      rw [cell_old _ _ _ _ (by simp), cell_new _ _ _ _ _ rfl]
      rcases (by omega : j = 0 ∨ j = 1 ∨ j = 2 ∨ j = 3 ∨ j = 4 ∨ j = 5 ∨ j = 6 ∨ j = 7) with rfl | rfl | rfl | rfl | rfl | rfl | rfl | rfl <;> rfl
end Go.Proofs.Ytfhmldjaebjkpaa
