/- Points compared, at the machine's own level. Conditions: none. -/
import Derived.Test.YtdkbmefidmljjaaW2
import Derived.Sort.Grow
import Derived.Lib.OthersKept
import Derived.Lib.Hide
namespace Go.Proofs.Ytdkbmefidmljjaa
open Go.RowKit Geo
set_option linter.unusedVariables false

theorem or_c (b cap : Nat) (zs : List Int) (hl : zs.length < 100) (w : World) (hc : ∀ i (h : i < zs.length), w.cell? ⟨b, i, none⟩ = some (.int .i64 zs[i])) :
    Calls Try.prog 46 #[.slice (some ⟨b, 0, none⟩) zs.length cap] w fun e w' => e = .returned (.int .i64 (orI zs)) ∧ w' = w := by
  go_enter Try.func46, Try.ntmps46
  have HC := Lib.hid hc
  clear hc
  go_wp2_with fail
  go_loop [8] (fun i => ∃ k : Nat, k ≤ zs.length ∧ i = .int .i64 k ∧ orI (zs.drop k) = orI zs) (fun i => zs.length - (intOf i).toNat)
  case atStart => exact ⟨0, by omega, rfl, rfl⟩
  case round =>
    obtain ⟨k, hk, rfl, he⟩ := hrel
    have HE := Lib.hid he
    clear he
    by_cases hlt : k < zs.length
    · have h1 : decide ((k : Int) < (zs.length : Int)) = true := by simp [hlt]
      have hcell := HC.out k hlt
      have hd := orI_drop zs k hlt
      have hw : IntKind.i64.wrap ((k : Int) + 1) = (k : Int) + 1 := by rw [IntKind.wrap_i64]; omega
      obtain ⟨z, hz⟩ : ∃ z, z = zs[k] := ⟨_, rfl⟩
      rw [← hz] at hcell hd
      have HD := Lib.hid (And.intro hd hz)
      clear hd hz
      by_cases h0 : z = 0
      · subst h0
        go_wp2
        exact ⟨⟨k + 1, by omega, by push_cast; rfl, by rw [← HE.out, HD.out.1, if_pos rfl]⟩, by simp [intOf]; omega⟩
      · have h0' : (z != 0) = true := by simp [h0]
        go_wp2
        go_ret
        refine ⟨?_, rfl⟩
        rw [← HE.out, HD.out.1, if_neg h0]; rfl
    · have h1 : decide ((k : Int) < (zs.length : Int)) = false := by simp; omega
      have hke : k = zs.length := by omega
      subst hke
      go_wp2
      go_ret
      refine ⟨?_, rfl⟩
      rw [← HE.out]; simp [orI]

theorem or2_c (b cap : Nat) (x y : Int) (w : World) (h : w.cell? ⟨b, 0, none⟩ = some (.int .i64 x) ∧ w.cell? ⟨b, 1, none⟩ = some (.int .i64 y)) :
    Calls Try.prog 46 #[.slice (some ⟨b, 0, none⟩) 2 cap] w fun e w' => e = .returned (.int .i64 (orI [x, y])) ∧ w' = w :=
  or_c b cap [x, y] (by simp) w (fun i hi => by
    match i, hi with
    | 0, _ => exact h.1
    | 1, _ => exact h.2)
theorem cell_new (w : World) (c : Array Value) (t : TypeId) (b off : Nat) (h : b = w.heap.size) : (w.alloc (.cells c t)).cell? ⟨b, off, none⟩ = c[off]? := by
  subst h
  unfold World.cell? World.alloc
  simp
theorem cell_drew (w : World) (a : Addr) : w.drew.cell? a = w.cell? a := rfl
theorem or2_new (x y : Int) (W : World) : Calls Try.prog 46 #[.slice (some ⟨W.heap.size, 0, none⟩) 2 2] (W.alloc (.cells #[.int .i64 x, .int .i64 y] 3)).drew fun e w' => e = .returned (.int .i64 (orI [x, y])) ∧ w' = (W.alloc (.cells #[.int .i64 x, .int .i64 y] 3)).drew :=
  or2_c _ _ _ _ _ ⟨by rw [cell_drew, cell_new _ _ _ _ _ rfl]; rfl, by rw [cell_drew, cell_new _ _ _ _ _ rfl]; rfl⟩

theorem cp_c (x y : Pt) (w : World) : Calls Try.prog 35 #[ptV x, ptV y] w fun e w' => e = .returned (.int .i64 (cp x y)) ∧ (∃ q os, w' = Sort.grow (w.drewN q) os) ∧ Below w.heap.size w w' := by
  rw [← cp_or]
  unfold ptV
  go_enter Try.func35, Try.ntmps35
  go_wp2_with fail
  obtain ⟨W, hW⟩ : ∃ W, W = (w.alloc (.cells #[.int .i64 x.x, .int .i64 x.y] 24)).alloc (.cells #[.int .i64 y.x, .int .i64 y.y] 24) := ⟨_, rfl⟩
  have hB : Below w.heap.size w W := by rw [hW]; go_grown
  have hs : W.heap.size = w.heap.size + 2 := by rw [hW]; simp
  have c1 : W.cell? ⟨w.heap.size, 0, none⟩ = some (.int .i64 x.x) := by rw [hW]; simp
  have c2 : W.cell? ⟨w.heap.size, 1, none⟩ = some (.int .i64 x.y) := by rw [hW]; simp
  have d1 : W.cell? ⟨w.heap.size + 1, 0, none⟩ = some (.int .i64 y.x) := by rw [hW]; simp
  have d2 : W.cell? ⟨w.heap.size + 1, 1, none⟩ = some (.int .i64 y.y) := by rw [hW]; simp
  rw [← hW]
  have HW := Lib.hid (And.intro hW hs)
  have HB := Lib.hid hB
  clear hW hs hB
  obtain ⟨g, hg⟩ : ∃ g, g = w.heap.size := ⟨_, rfl⟩
  rw [← hg] at c1 c2 d1 d2 ⊢
  have HG := Lib.hid hg
  clear hg
  go_region_held3 (fun w' => w'.cell? ⟨g, 0, none⟩ = some (.int .i64 x.x) ∧ w'.cell? ⟨g, 1, none⟩ = some (.int .i64 x.y) ∧ w'.cell? ⟨g + 1, 0, none⟩ = some (.int .i64 y.x) ∧ w'.cell? ⟨g + 1, 1, none⟩ = some (.int .i64 y.y)) (first | exact ⟨c1, c2, d1, d2⟩ | go_keep)
    (first | (go_at_call 48; refine (compare_c _ _ _).mono ?_; rintro e w' ⟨rfl, rfl⟩) | (go_at_call 46; with_reducible refine (or2_new _ _ _).mono ?_; rintro e w' ⟨rfl, rfl⟩))
  rename_i hHeld
  clear hHeld c1 c2 d1 d2
  go_wp2_with fail
  go_ret
  have hB := HB.out
  refine ⟨rfl, ⟨1, #[.cells #[.int .i64 x.x, .int .i64 x.y] 24, .cells #[.int .i64 y.x, .int .i64 y.y] 24, .cells #[.int .i64 (cmpI x.x y.x), .int .i64 (cmpI x.y y.y)] 3], ?_⟩, (hB.alloc hB.size _).drew⟩
  rw [HW.out.1, Sort.alloc_eq_grow, Sort.alloc_eq_grow, Sort.alloc_eq_grow, Sort.grow_grow, Sort.grow_grow]
  rfl
