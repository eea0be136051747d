/- The walk of WallsClash: it returns true. Conditions: none. -/
import Derived.Test.YthpbgolnlmjjdaaW15
namespace Go.Proofs.Ythpbgolnlmjjdaa
open Go.RowKit V Geo Go.ChangeShapes Go.WideShapes
set_option linter.unusedVariables false
theorem r5_of {W : World} {a : Option Addr} {len cap : Nat} {zs : List Int} (y : Flat.IsFlat 5 W a len cap zs) : ∃ l : List Wl, IsL (fun _ => none) W 5 (l.map Wl.v) (.slice a len cap) := by
  refine ⟨(List.range len).map fun i => ⟨⟨zs.getD (i * 5 + 0) 0, zs.getD (i * 5 + 1) 0⟩, ⟨zs.getD (i * 5 + 2) 0, zs.getD (i * 5 + 3) 0⟩, zs.getD (i * 5 + 4) 0⟩, ?_⟩
  have := isl_rows (by decide) y
  rw [List.map_map]
  exact this
set_option maxRecDepth 100000 in
theorem wallsClash_w (W : World) (a0 : Option Addr) (len0 cap0 : Nat) (zs0 : List Int) (y0 : Flat.IsFlat 5 W a0 len0 cap0 zs0) : Calls Try.prog 3 #[.slice a0 len0 cap0] W fun e W' => e = .returned (.bool true) ∧ Below W.heap.size W W' := by
  obtain ⟨l0, h0⟩ := r5_of y0
  exact VC.calls (args := [vL 5 (l0.map Wl.v)]) (v_wallsClash l0 _ rfl) (RVs.cons (by exact h0) RVs.nil)
end Go.Proofs.Ythpbgolnlmjjdaa
