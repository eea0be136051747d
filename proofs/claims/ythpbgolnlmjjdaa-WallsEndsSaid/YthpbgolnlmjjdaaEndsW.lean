/- The walk of WallsEnds: it returns true. Conditions: none. -/
import Derived.Test.YthpbgolnlmjjdaaW16
namespace Go.Proofs.Ythpbgolnlmjjdaa
open Go.RowKit V Geo Go.ChangeShapes Go.WideShapes
set_option linter.unusedVariables false
set_option maxRecDepth 100000 in
theorem wallsEnds_w (W : World) (x y a1 a2 a3 a4 : Int) : Calls Try.prog 4 #[.agg #[.int .i64 x, .int .i64 y], .int .i64 a1, .int .i64 a2, .int .i64 a3, .int .i64 a4] W fun e W' => e = .returned (.bool true) ∧ Below W.heap.size W W' :=
  VC.calls (args := [vV (ptV ⟨x, y⟩), vI a1, vI a2, vI a3, vI a4]) (v_wallsEnds ⟨x, y⟩ a1 a2 a3 a4 _ rfl) (RVs.cons (by exact rfl) (RVs.cons (by exact rfl) (RVs.cons (by exact rfl) (RVs.cons (by exact rfl) (RVs.cons (by exact rfl) RVs.nil)))))
end Go.Proofs.Ythpbgolnlmjjdaa
