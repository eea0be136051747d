/- The walk of CapsRevoked: it returns true. Conditions: none. -/
import Derived.Test.YtahakebcjjaikaaP21
import Derived.Test.YtahakebcjjaikaaVB
namespace Go.Proofs.Ytahakebcjjaikaa
open Go.RowKit V Go.ChangeShapes Go.WideShapes
set_option linter.unusedVariables false
theorem r4_of {W : World} {a : Option Addr} {len cap : Nat} {zs : List Int} (y : Flat.IsFlat 4 W a len cap zs) : ∃ l : List (Int × Int × Int × Int), IsL (fun _ => none) W 4 (l.map r4V) (.slice a len cap) := by
  refine ⟨(List.range len).map fun i => (zs.getD (i * 4 + 0) 0, zs.getD (i * 4 + 1) 0, zs.getD (i * 4 + 2) 0, zs.getD (i * 4 + 3) 0), ?_⟩
  have := isl_rows (by decide) y
  rw [List.map_map]
  exact this
theorem capsRevoked_w (W : World) (a0 : Option Addr) (len0 cap0 : Nat) (zs0 : List Int) (y0 : Flat.IsFlat 4 W a0 len0 cap0 zs0) (a1 : Int) (a2 : Int) : Calls Try.prog 4 #[.slice a0 len0 cap0, .int .i64 a1, .int .i64 a2] W fun e W' => e = .returned (.bool true) ∧ Below W.heap.size W W' := by
  obtain ⟨l0, h0⟩ := r4_of y0
  exact VC.calls (args := [vL 4 (l0.map r4V), vI a1, vI a2]) (v_capsRevoked l0 a1 a2 _ rfl) (RVs.cons (by exact h0) (RVs.cons (by exact rfl) (RVs.cons (by exact rfl) RVs.nil)))
end Go.Proofs.Ytahakebcjjaikaa
