/- The walk of CapsTime: it returns true. Conditions: none. -/
import Derived.Test.YtahakebcjjaikaaP22
import Derived.Test.YtahakebcjjaikaaVB
namespace Go.Proofs.Ytahakebcjjaikaa
open Go.RowKit V Go.ChangeShapes Go.WideShapes
set_option linter.unusedVariables false
theorem capsTime_w (W : World) (a0 : Int) (a1 : Int) : Calls Try.prog 7 #[.int .i64 a0, .int .i64 a1] W fun e W' => e = .returned (.bool true) ∧ Below W.heap.size W W' := by
  exact VC.calls (args := [vI a0, vI a1]) (v_capsTime a0 a1 _ rfl) (RVs.cons (by exact rfl) (RVs.cons (by exact rfl) RVs.nil))
end Go.Proofs.Ytahakebcjjaikaa
