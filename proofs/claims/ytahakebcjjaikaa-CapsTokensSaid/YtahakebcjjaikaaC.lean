/- Cmp. Conditions: none. -/
import Derived.Test.YtahakebcjjaikaaB
import Derived.Sort.Grow
namespace Go.Proofs.Ytahakebcjjaikaa
open Go.RowKit

theorem or3_c (b cap : Nat) (x y z : Int) (w : World) (h : w.cell? ⟨b, 0, none⟩ = some (.int .i64 x) ∧ w.cell? ⟨b, 1, none⟩ = some (.int .i64 y) ∧ w.cell? ⟨b, 2, none⟩ = some (.int .i64 z)) :
    Calls Try.prog 58 #[.slice (some ⟨b, 0, none⟩) 3 cap] w fun e w' => e = .returned (.int .i64 (orI [x, y, z])) ∧ w' = w :=
  or_c b cap [x, y, z] (by simp) w (fun i hi => by
    match i, hi with
    | 0, _ => exact h.1
    | 1, _ => exact h.2.1
    | 2, _ => exact h.2.2)

theorem cell_old (w : World) (o : Obj) (b off : Nat) (h : b < w.heap.size) : (w.alloc o).cell? ⟨b, off, none⟩ = w.cell? ⟨b, off, none⟩ :=
  World.cell?_of_block (w := w) (Below.heap_alloc w o b h)
theorem cell_new (w : World) (c : Array Value) (t : TypeId) (b off : Nat) (h : b = w.heap.size) : (w.alloc (.cells c t)).cell? ⟨b, off, none⟩ = c[off]? := by
  subst h
  unfold World.cell? World.alloc
  simp
theorem cell_drew (w : World) (a : Addr) : w.drew.cell? a = w.cell? a := rfl
theorem or3_new (x y z : Int) (W : World) : Calls Try.prog 58 #[.slice (some ⟨W.heap.size, 0, none⟩) 3 3] (W.alloc (.cells #[.int .i64 x, .int .i64 y, .int .i64 z] 3)).drew fun e w' => e = .returned (.int .i64 (orI [x, y, z])) ∧ w' = (W.alloc (.cells #[.int .i64 x, .int .i64 y, .int .i64 z] 3)).drew :=
  or3_c _ _ _ _ _ _ ⟨by rw [cell_drew, cell_new _ _ _ _ _ rfl]; rfl, by rw [cell_drew, cell_new _ _ _ _ _ rfl]; rfl, by rw [cell_drew, cell_new _ _ _ _ _ rfl]; rfl⟩

theorem cmp_c (x y : Cap) (w : World) : Calls Try.prog 29 #[x.v, y.v] w fun e w' => e = .returned (.int .i64 (x.cmp y)) ∧ (∃ q os, w' = Sort.grow (w.drewN q) os) ∧ Below w.heap.size w w' := by
  unfold Cap.v
  go_enter Try.func29, Try.ntmps29
  go_wp2_with fail
  obtain ⟨W, hW⟩ : ∃ W, W = (w.alloc (.cells #[.int .i64 x.parcel, .int .i64 x.issuer, .int .i64 x.n, .int .i64 x.holder, .int .i64 x.label, .int .i64 x.rights, .int .i64 x.until_, .int .i64 x.fromI, .int .i64 x.fromN] 29)).alloc (.cells #[.int .i64 y.parcel, .int .i64 y.issuer, .int .i64 y.n, .int .i64 y.holder, .int .i64 y.label, .int .i64 y.rights, .int .i64 y.until_, .int .i64 y.fromI, .int .i64 y.fromN] 29) := ⟨_, rfl⟩
  have hB : Below w.heap.size w W := by rw [hW]; go_grown
  have hs : W.heap.size = w.heap.size + 2 := by rw [hW]; simp
  have c1 : W.cell? ⟨w.heap.size, 0, none⟩ = some (.int .i64 x.parcel) := by rw [hW]; simp 
  have c2 : W.cell? ⟨w.heap.size, 1, none⟩ = some (.int .i64 x.issuer) := by rw [hW]; simp 
  have c3 : W.cell? ⟨w.heap.size, 2, none⟩ = some (.int .i64 x.n) := by rw [hW]; simp 
  have d1 : W.cell? ⟨w.heap.size + 1, 0, none⟩ = some (.int .i64 y.parcel) := by rw [hW]; simp 
  have d2 : W.cell? ⟨w.heap.size + 1, 1, none⟩ = some (.int .i64 y.issuer) := by rw [hW]; simp 
  have d3 : W.cell? ⟨w.heap.size + 1, 2, none⟩ = some (.int .i64 y.n) := by rw [hW]; simp 
  rw [← hW]
  have HW := Lib.hid (And.intro hW hs)
  have HB := Lib.hid hB
  clear hW hs hB
  obtain ⟨g, hg⟩ : ∃ g, g = w.heap.size := ⟨_, rfl⟩
  rw [← hg] at c1 c2 c3 d1 d2 d3 ⊢
  have HG := Lib.hid hg
  clear hg
  go_region_held3 (fun w' => w'.cell? ⟨g, 0, none⟩ = some (.int .i64 x.parcel) ∧ w'.cell? ⟨g, 1, none⟩ = some (.int .i64 x.issuer) ∧ w'.cell? ⟨g, 2, none⟩ = some (.int .i64 x.n) ∧ w'.cell? ⟨g + 1, 0, none⟩ = some (.int .i64 y.parcel) ∧ w'.cell? ⟨g + 1, 1, none⟩ = some (.int .i64 y.issuer) ∧ w'.cell? ⟨g + 1, 2, none⟩ = some (.int .i64 y.n)) (first | exact ⟨c1, c2, c3, d1, d2, d3⟩ | go_keep)
    (first | (go_at_call 59; refine (compare_c _ _ _).mono ?_; rintro e w' ⟨rfl, rfl⟩) | (go_at_call 58; with_reducible refine (or3_new _ _ _ _).mono ?_; rintro e w' ⟨rfl, rfl⟩))
  rename_i hHeld
  clear hHeld c1 c2 c3 d1 d2 d3
  go_wp2_with fail
  go_ret
  have hB := HB.out
  refine ⟨rfl, ⟨1, #[.cells #[.int .i64 x.parcel, .int .i64 x.issuer, .int .i64 x.n, .int .i64 x.holder, .int .i64 x.label, .int .i64 x.rights, .int .i64 x.until_, .int .i64 x.fromI, .int .i64 x.fromN] 29, .cells #[.int .i64 y.parcel, .int .i64 y.issuer, .int .i64 y.n, .int .i64 y.holder, .int .i64 y.label, .int .i64 y.rights, .int .i64 y.until_, .int .i64 y.fromI, .int .i64 y.fromN] 29, .cells #[.int .i64 (sgn x.parcel y.parcel), .int .i64 (sgn x.issuer y.issuer), .int .i64 (sgn x.n y.n)] 3], ?_⟩, (hB.alloc hB.size _).drew⟩
  rw [HW.out.1, Sort.alloc_eq_grow, Sort.alloc_eq_grow, Sort.alloc_eq_grow, Sort.grow_grow, Sort.grow_grow]
  rfl

end Go.Proofs.Ytahakebcjjaikaa
