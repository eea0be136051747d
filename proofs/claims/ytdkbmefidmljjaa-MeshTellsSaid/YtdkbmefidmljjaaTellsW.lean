/- The walk of MeshTells: it returns true. Conditions: none. -/
import Derived.Test.YtdkbmefidmljjaaW27
namespace Go.Proofs.Ytdkbmefidmljjaa
open Go.RowKit V Geo Go.ChangeShapes Go.WideShapes
set_option linter.unusedVariables false
theorem rt_of {W : World} {a : Option Addr} {len cap : Nat} {zs : List Int} (y : Flat.IsFlat 6 W a len cap zs) : ∃ l : List Tr, IsL (fun _ => none) W 6 (l.map Tr.v) (.slice a len cap) := by
  refine ⟨(List.range len).map fun i => ⟨⟨zs.getD (i * 6 + 0) 0, zs.getD (i * 6 + 1) 0⟩, ⟨zs.getD (i * 6 + 2) 0, zs.getD (i * 6 + 3) 0⟩, ⟨zs.getD (i * 6 + 4) 0, zs.getD (i * 6 + 5) 0⟩⟩, ?_⟩
  have := isl_rows (by decide) y
  rw [List.map_map]
  exact this
set_option maxRecDepth 100000 in
theorem meshTells_w (W : World) (a0 : Option Addr) (len0 cap0 : Nat) (zs0 : List Int) (y0 : Flat.IsFlat 6 W a0 len0 cap0 zs0) (a b c d e f g h i j : Int) : Calls Try.prog 3 #[.slice a0 len0 cap0, .agg #[.int .i64 a, .int .i64 b, .int .i64 c, .int .i64 d, .int .i64 e, .int .i64 f], .agg #[.int .i64 g, .int .i64 h], .agg #[.int .i64 i, .int .i64 j]] W fun e W' => e = .returned (.bool true) ∧ Below W.heap.size W W' := by
  obtain ⟨l0, h0⟩ := rt_of y0
  exact VC.calls (args := [vL 6 (l0.map Tr.v), vV (Tr.v ⟨⟨a, b⟩, ⟨c, d⟩, ⟨e, f⟩⟩), vV (ptV ⟨g, h⟩), vV (ptV ⟨i, j⟩)]) (v_law l0 ⟨⟨a, b⟩, ⟨c, d⟩, ⟨e, f⟩⟩ ⟨g, h⟩ ⟨i, j⟩ _ rfl) (RVs.cons (by exact h0) (RVs.cons rfl (RVs.cons rfl (RVs.cons rfl RVs.nil))))
end Go.Proofs.Ytdkbmefidmljjaa
