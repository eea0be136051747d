/- The walk of CapsTokens: it returns true. Conditions: none. -/
import Derived.Test.YtahakebcjjaikaaP23
import Derived.Test.YtahakebcjjaikaaVB
namespace Go.Proofs.Ytahakebcjjaikaa
open Go.RowKit V Go.ChangeShapes Go.WideShapes
set_option linter.unusedVariables false
set_option maxRecDepth 100000 in
theorem capsTokens_w (W : World) (a0 : Int) (a1 : Int) {H : Type} {enc : TypeId × Value → H} {base : Nat} {spare : Nat → Bool} {held : Bool} {r : Reach} {b0 : Nat} {v2 : Value} {d : DataW H} {p : List MemPlace} (hv2 : Value.okWide Try.prog W r b0 45 v2) (k2 : DataW.Trod enc Try.prog W base spare held 45 v2 d p) : Calls Try.prog 6 #[.int .i64 a0, .int .i64 a1, v2] W fun e W' => e = .returned (.bool true) ∧ Below W.heap.size W W' := by
  have hb4 : Try.prog.underlying 4 = some .bool := by kernel_rfl
  have hc4 : Try.prog.cellsOf 4 = 1 := by kernel_rfl
  obtain ⟨l2, h2⟩ := isl_bools Try.underlying45 hb4 hc4 hv2 k2
  exact VC.calls (args := [vI a0, vI a1, vL 1 (l2.map Value.bool)]) (v_capsTokens a0 a1 l2 _ rfl) (RVs.cons (by exact rfl) (RVs.cons (by exact rfl) (RVs.cons (by exact h2) RVs.nil)))
end Go.Proofs.Ytahakebcjjaikaa
