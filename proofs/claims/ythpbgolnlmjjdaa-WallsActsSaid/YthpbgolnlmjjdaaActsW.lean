/- The walk of WallsActs: it returns true. Conditions: none. -/
import Derived.Test.YthpbgolnlmjjdaaW21
namespace Go.Proofs.Ythpbgolnlmjjdaa
open Go.RowKit V Geo Go.ChangeShapes Go.WideShapes
set_option linter.unusedVariables false
theorem rw_of {W : World} {a : Option Addr} {len cap : Nat} {zs : List Int} (y : Flat.IsFlat 5 W a len cap zs) : ∃ l : List Wl, IsL (fun _ => none) W 5 (l.map Wl.v) (.slice a len cap) := by
  refine ⟨(List.range len).map fun i => ⟨⟨zs.getD (i * 5 + 0) 0, zs.getD (i * 5 + 1) 0⟩, ⟨zs.getD (i * 5 + 2) 0, zs.getD (i * 5 + 3) 0⟩, zs.getD (i * 5 + 4) 0⟩, ?_⟩
  have := isl_rows (by decide) y
  rw [List.map_map]
  exact this
theorem ra_of {W : World} {a : Option Addr} {len cap : Nat} {zs : List Int} (y : Flat.IsFlat 8 W a len cap zs) : ∃ l : List Ac, IsL (fun _ => none) W 8 (l.map Ac.v) (.slice a len cap) := by
  refine ⟨(List.range len).map fun i => ⟨zs.getD (i * 8 + 0) 0, ⟨⟨zs.getD (i * 8 + 1) 0, zs.getD (i * 8 + 2) 0⟩, ⟨zs.getD (i * 8 + 3) 0, zs.getD (i * 8 + 4) 0⟩, zs.getD (i * 8 + 5) 0⟩, ⟨zs.getD (i * 8 + 6) 0, zs.getD (i * 8 + 7) 0⟩⟩, ?_⟩
  have := isl_rows (by decide) y
  rw [List.map_map]
  exact this
set_option maxRecDepth 100000 in
theorem wallsActs_w (W : World) (a0 : Option Addr) (len0 cap0 : Nat) (zs0 : List Int) (y0 : Flat.IsFlat 5 W a0 len0 cap0 zs0) (a1 : Option Addr) (len1 cap1 : Nat) (zs1 : List Int) (y1 : Flat.IsFlat 8 W a1 len1 cap1 zs1) : Calls Try.prog 5 #[.slice a0 len0 cap0, .slice a1 len1 cap1] W fun e W' => e = .returned (.bool true) ∧ Below W.heap.size W W' := by
  obtain ⟨l0, h0⟩ := rw_of y0
  obtain ⟨l1, h1⟩ := ra_of y1
  exact VC.calls (args := [vL 5 (l0.map Wl.v), vL 8 (l1.map Ac.v)]) (v_wallsActs l0 l1 _ rfl) (RVs.cons (by exact h0) (RVs.cons (by exact h1) RVs.nil))
end Go.Proofs.Ythpbgolnlmjjdaa
