/- Walls compared, at the machine's own level. Conditions: none. -/
import Derived.Test.YtdkbmefidmljjaaW8
import Derived.Test.YtdkbmefidmljjaaK1
namespace Go.Proofs.Ytdkbmefidmljjaa
open Go.RowKit Geo
set_option linter.unusedVariables false

/-- Draws and new blocks alone. -/
def Gr (W w' : World) : Prop := ∃ q os, w' = Sort.grow (W.drewN q) os
theorem Gr.drew1 (W : World) : Gr W W.drew := ⟨1, #[], (Sort.grow_empty _).symm⟩
theorem drewN_grow (W : World) (q : Nat) (os : Array Obj) : (Sort.grow W os).drewN q = Sort.grow (W.drewN q) os := rfl
theorem drewN_drewN (W : World) (q q' : Nat) : (W.drewN q).drewN q' = W.drewN (q + q') := by simp [World.drewN, Nat.add_assoc]
theorem Gr.trans {a b c : World} (h : Gr a b) (k : Gr b c) : Gr a c := by
  obtain ⟨q, os, rfl⟩ := h
  obtain ⟨q', os', rfl⟩ := k
  exact ⟨q + q', os ++ os', by rw [drewN_grow, drewN_drewN, Sort.grow_grow]⟩
theorem Gr.alloc {a b : World} (h : Gr a b) (o : Obj) : Gr a (b.alloc o) := by
  obtain ⟨q, os, rfl⟩ := h
  exact ⟨q, os ++ #[o], by rw [Sort.alloc_eq_grow, Sort.grow_grow]⟩
theorem Gr.drew {a b : World} (h : Gr a b) : Gr a b.drew := h.trans (Gr.drew1 b)
theorem Gr.cell {W w' : World} (h : Gr W w') {b off : Nat} (hb : b < W.heap.size) : w'.cell? ⟨b, off, none⟩ = W.cell? ⟨b, off, none⟩ := by
  obtain ⟨q, os, rfl⟩ := h
  exact Sort.cell?_grow (W.drewN q) os ⟨b, off, none⟩ hb
theorem or3_new (x y z : Int) (W : World) : Calls Try.prog 46 #[.slice (some ⟨W.heap.size, 0, none⟩) 3 3] (W.alloc (.cells #[.int .i64 x, .int .i64 y, .int .i64 z] 3)) fun e w' => e = .returned (.int .i64 (orI [x, y, z])) ∧ w' = (W.alloc (.cells #[.int .i64 x, .int .i64 y, .int .i64 z] 3)) :=
  or_c _ _ [x, y, z] (by simp) _ (fun i hi => by
    match i, hi with
    | 0, _ => exact (cell_new _ _ _ _ _ rfl).trans rfl
    | 1, _ => exact (cell_new _ _ _ _ _ rfl).trans rfl
    | 2, _ => exact (cell_new _ _ _ _ _ rfl).trans rfl)

def Tr.cmp (v w : Tr) : Int := orI [cp v.a w.a, cp v.b w.b, cp v.c w.c]

theorem cp_c' (a b c d : Int) (W : World) : Calls Try.prog 35 #[.agg #[.int .i64 a, .int .i64 b], .agg #[.int .i64 c, .int .i64 d]] W fun e w' => e = .returned (.int .i64 (cp ⟨a, b⟩ ⟨c, d⟩)) ∧ Gr W w' :=
  (cp_c ⟨a, b⟩ ⟨c, d⟩ W).mono fun _ _ h => ⟨h.1, h.2.1⟩

set_option maxHeartbeats 4000000 in
theorem cmpT_c (x y : Tr) (w : World) : Calls Try.prog 29 #[x.v, y.v] w fun e w' => e = .returned (.int .i64 (x.cmp y)) ∧ Gr w w' := by
  unfold Tr.v
  go_enter Try.func29, Try.ntmps29
  go_wp2_with fail
  obtain ⟨W, hW⟩ : ∃ W, W = (w.alloc (.cells #[.int .i64 x.a.x, .int .i64 x.a.y, .int .i64 x.b.x, .int .i64 x.b.y, .int .i64 x.c.x, .int .i64 x.c.y] 26)).alloc (.cells #[.int .i64 y.a.x, .int .i64 y.a.y, .int .i64 y.b.x, .int .i64 y.b.y, .int .i64 y.c.x, .int .i64 y.c.y] 26) := ⟨_, rfl⟩
  have hB : Gr w W := by rw [hW]; exact ((show Gr w w from ⟨0, #[], by simp [World.drewN]⟩).alloc _).alloc _
  have hs : W.heap.size = w.heap.size + 2 := by rw [hW]; simp
  have c0 : W.cell? ⟨w.heap.size, 0, none⟩ = some (.int .i64 x.a.x) := by rw [hW]; simp
  have c1 : W.cell? ⟨w.heap.size, 1, none⟩ = some (.int .i64 x.a.y) := by rw [hW]; simp
  have c2 : W.cell? ⟨w.heap.size, 2, none⟩ = some (.int .i64 x.b.x) := by rw [hW]; simp
  have c3 : W.cell? ⟨w.heap.size, 3, none⟩ = some (.int .i64 x.b.y) := by rw [hW]; simp
  have c4 : W.cell? ⟨w.heap.size, 4, none⟩ = some (.int .i64 x.c.x) := by rw [hW]; simp
  have c5 : W.cell? ⟨w.heap.size, 5, none⟩ = some (.int .i64 x.c.y) := by rw [hW]; simp
  have d0 : W.cell? ⟨w.heap.size + 1, 0, none⟩ = some (.int .i64 y.a.x) := by rw [hW]; simp
  have d1 : W.cell? ⟨w.heap.size + 1, 1, none⟩ = some (.int .i64 y.a.y) := by rw [hW]; simp
  have d2 : W.cell? ⟨w.heap.size + 1, 2, none⟩ = some (.int .i64 y.b.x) := by rw [hW]; simp
  have d3 : W.cell? ⟨w.heap.size + 1, 3, none⟩ = some (.int .i64 y.b.y) := by rw [hW]; simp
  have d4 : W.cell? ⟨w.heap.size + 1, 4, none⟩ = some (.int .i64 y.c.x) := by rw [hW]; simp
  have d5 : W.cell? ⟨w.heap.size + 1, 5, none⟩ = some (.int .i64 y.c.y) := by rw [hW]; simp
  rw [← hW]
  obtain ⟨g, hg⟩ : ∃ g, g = w.heap.size := ⟨_, rfl⟩
  rw [← hg] at c0 c1 c2 c3 c4 c5 d0 d1 d2 d3 d4 d5 ⊢
  have hgW : g < W.heap.size := by omega
  have hgW1 : g + 1 < W.heap.size := by omega
  have KP := Lib.hid (fun w' (hw : Gr W w') => (show (fun w' => w'.cell? ⟨g, 0, none⟩ = some (.int .i64 x.a.x) ∧ w'.cell? ⟨g, 1, none⟩ = some (.int .i64 x.a.y) ∧ w'.cell? ⟨g, 2, none⟩ = some (.int .i64 x.b.x) ∧ w'.cell? ⟨g, 3, none⟩ = some (.int .i64 x.b.y) ∧ w'.cell? ⟨g, 4, none⟩ = some (.int .i64 x.c.x) ∧ w'.cell? ⟨g, 5, none⟩ = some (.int .i64 x.c.y) ∧ w'.cell? ⟨g + 1, 0, none⟩ = some (.int .i64 y.a.x) ∧ w'.cell? ⟨g + 1, 1, none⟩ = some (.int .i64 y.a.y) ∧ w'.cell? ⟨g + 1, 2, none⟩ = some (.int .i64 y.b.x) ∧ w'.cell? ⟨g + 1, 3, none⟩ = some (.int .i64 y.b.y) ∧ w'.cell? ⟨g + 1, 4, none⟩ = some (.int .i64 y.c.x) ∧ w'.cell? ⟨g + 1, 5, none⟩ = some (.int .i64 y.c.y) ∧ Gr W w') w' from
    ⟨(hw.cell hgW).trans c0, (hw.cell hgW).trans c1, (hw.cell hgW).trans c2, (hw.cell hgW).trans c3, (hw.cell hgW).trans c4, (hw.cell hgW).trans c5, (hw.cell hgW1).trans d0, (hw.cell hgW1).trans d1, (hw.cell hgW1).trans d2, (hw.cell hgW1).trans d3, (hw.cell hgW1).trans d4, (hw.cell hgW1).trans d5, hw⟩))
  have HW := Lib.hid (And.intro hs (And.intro hg hB))
  clear hW hs hB hg hgW hgW1
  go_region_held3 (fun w' => w'.cell? ⟨g, 0, none⟩ = some (.int .i64 x.a.x) ∧ w'.cell? ⟨g, 1, none⟩ = some (.int .i64 x.a.y) ∧ w'.cell? ⟨g, 2, none⟩ = some (.int .i64 x.b.x) ∧ w'.cell? ⟨g, 3, none⟩ = some (.int .i64 x.b.y) ∧ w'.cell? ⟨g, 4, none⟩ = some (.int .i64 x.c.x) ∧ w'.cell? ⟨g, 5, none⟩ = some (.int .i64 x.c.y) ∧ w'.cell? ⟨g + 1, 0, none⟩ = some (.int .i64 y.a.x) ∧ w'.cell? ⟨g + 1, 1, none⟩ = some (.int .i64 y.a.y) ∧ w'.cell? ⟨g + 1, 2, none⟩ = some (.int .i64 y.b.x) ∧ w'.cell? ⟨g + 1, 3, none⟩ = some (.int .i64 y.b.y) ∧ w'.cell? ⟨g + 1, 4, none⟩ = some (.int .i64 y.c.x) ∧ w'.cell? ⟨g + 1, 5, none⟩ = some (.int .i64 y.c.y) ∧ Gr W w') (first | with_reducible exact KP.out _ (Gr.drew1 W) | with_reducible exact KP.out _ (by assumption) | (refine KP.out _ (Gr.alloc ?_ _); go_split_ands; assumption) | go_keep)
    (first
      | (go_at_call 35; with_reducible refine (cp_c' _ _ _ _ _).mono ?_; rintro e w' ⟨rfl, hgr⟩; have hgr' : Gr W w' := by (go_split_ands; exact Gr.trans (by assumption) hgr))
      | (go_at_call 46; with_reducible refine (or3_new _ _ _ _).mono ?_; rintro e w' ⟨rfl, rfl⟩))
  all_goals go_split_ands
  all_goals go_wp2_with fail
  all_goals go_ret
  all_goals exact ⟨rfl, HW.out.2.2.trans (Gr.alloc (by assumption) _)⟩
