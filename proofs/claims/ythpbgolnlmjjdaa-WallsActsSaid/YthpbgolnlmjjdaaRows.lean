/-
  No cell of these rows narrows 'for every input' (looked for: loops, veiled, ifaces, maps, wideKeys, modest, calm, conditions, laid).
  DERIVED. THE GIVEN ROWS OF THIS SEAT. 3 by the template 'for every input the law returns true; each argument reads behind the call as it read before'; 0 by the template 'total and deterministic' (their statements: YthpbgolnlmjjdaaTotals.lean).
  GIVEN WITH THE SEED: the statements are not yours to turn. If you find one false, say at which input.
  Laid BY PROGRAM, IN A SANDBOX (cutbox-rows.mjs): the forced cells as the released guide's own fill.sh prints them over the translation dfca39dc3e33ffa4… (all of the seat's roots in one cut). By AI agents, Wed Nov 11 2026. No macro, syntax, notation, axiom, sorry.
-/
import Derived.Test.YthpbgolnlmjjdaaChecked
import GoSem.Claim
import GoSem.ClaimJoined
import GoSem.ClaimMapViews
import Derived.JoinedTies
import Derived.KernelRfl
namespace Go.Proofs.Ythpbgolnlmjjdaa
/- THE CELL 'sum', in the pinned program and in every row, IS THE sha256 OF THE DUMP (.gsa) THAT YthpbgolnlmjjdaaProg.lean LOADS. Nothing in Lean hashes anything: it is a label: what it is worth is what the hold of that sum in a sandbox is worth. -/
noncomputable def Try.pinned : Pinned := { name := "ythpbgolnlmjjdaa", sum := "dfca39dc3e33ffa49c4d11ff4e63cc5ba3e758fc02fa8bc92f26509eb7d8b876", checked := Try.checked }
namespace Rows
def none {H : Type} : Left H := { results := [], args := [] }

/-- 'hectarelaw7.WallsClash': WHATEVER THE INPUT: true; the input reads as it did. -/
def wallsClashSpec : ChangeSpec := { name := "wallsClash", fn := fun _ => fun
  | [d] => { results := [.lit (.bool true)], args := [d] }
  | _ => none }
def wallsClashRow : OpenClaim := { program := "ythpbgolnlmjjdaa", sum := "dfca39dc3e33ffa49c4d11ff4e63cc5ba3e758fc02fa8bc92f26509eb7d8b876", func := "hectare/hectarelaw7.WallsClash", spec := "wallsClash", unfollowed := true, recurses := true, plainKeys := false, apart := false }
def WallsClashSaid : Prop := wallsClashRow.holds Try.pinned (OpenSpec.ofChange wallsClashSpec)

/-- ITS FALSE NEIGHBOUR: 'it returns false'. Refute it at one input. -/
def wallsClashWrong : ChangeSpec := { name := "wallsClash", fn := fun _ => fun
  | [d] => { results := [.lit (.bool false)], args := [d] }
  | _ => none }
def WallsClashWrongFalsely : Prop := wallsClashRow.holds Try.pinned (OpenSpec.ofChange wallsClashWrong)

/-- 'hectarelaw7.WallsEnds': WHATEVER THE INPUT: true; the input reads as it did. -/
def wallsEndsSpec : ChangeSpec := { name := "wallsEnds", fn := fun _ => fun
  | [d1, d2, d3, d4, d5] => { results := [.lit (.bool true)], args := [d1, d2, d3, d4, d5] }
  | _ => none }
def wallsEndsRow : OpenClaim := { program := "ythpbgolnlmjjdaa", sum := "dfca39dc3e33ffa49c4d11ff4e63cc5ba3e758fc02fa8bc92f26509eb7d8b876", func := "hectare/hectarelaw7.WallsEnds", spec := "wallsEnds", unfollowed := true, recurses := true, plainKeys := false, apart := false }
def WallsEndsSaid : Prop := wallsEndsRow.holds Try.pinned (OpenSpec.ofChange wallsEndsSpec)

/-- ITS FALSE NEIGHBOUR: 'it returns false'. Refute it at one input. -/
def wallsEndsWrong : ChangeSpec := { name := "wallsEnds", fn := fun _ => fun
  | [d1, d2, d3, d4, d5] => { results := [.lit (.bool false)], args := [d1, d2, d3, d4, d5] }
  | _ => none }
def WallsEndsWrongFalsely : Prop := wallsEndsRow.holds Try.pinned (OpenSpec.ofChange wallsEndsWrong)

/-- 'hectarelaw7.WallsActs': WHATEVER THE INPUT: true; the input reads as it did. -/
def wallsActsSpec : ChangeSpec := { name := "wallsActs", fn := fun _ => fun
  | [d1, d2] => { results := [.lit (.bool true)], args := [d1, d2] }
  | _ => none }
def wallsActsRow : OpenClaim := { program := "ythpbgolnlmjjdaa", sum := "dfca39dc3e33ffa49c4d11ff4e63cc5ba3e758fc02fa8bc92f26509eb7d8b876", func := "hectare/hectarelaw7.WallsActs", spec := "wallsActs", unfollowed := true, recurses := true, plainKeys := false, apart := false }
def WallsActsSaid : Prop := wallsActsRow.holds Try.pinned (OpenSpec.ofChange wallsActsSpec)

/-- ITS FALSE NEIGHBOUR: 'it returns false'. Refute it at one input. -/
def wallsActsWrong : ChangeSpec := { name := "wallsActs", fn := fun _ => fun
  | [d1, d2] => { results := [.lit (.bool false)], args := [d1, d2] }
  | _ => none }
def WallsActsWrongFalsely : Prop := wallsActsRow.holds Try.pinned (OpenSpec.ofChange wallsActsWrong)

/- THE SECOND FORM. 'bulk': how many values and letters a reading holds, each counted each time it is reached (what is shared counts as often as it is met; a slice's spare places count too). A statement '..UptoSaid' is the law's where the arguments, and the package variables that the reading takes, are together of bulk at most 1048576: NARROWER than '..Said'. Prove '..Said' where nothing that the law and all that it calls make is longer than what came in: it says more and counts as full. Else prove '..UptoSaid'. A law counts once. -/
mutual
def uptoBulk {H : Type} : DataW H → Nat
  | .lit (.string bytes) => bytes.length + 1
  | .lit _ => 1
  | .nil => 1
  | .ptr d => uptoBulk d + 1
  | .slice elems spare => uptoBulkAll elems + uptoBulkAll spare + 1
  | .agg parts => uptoBulkAll parts + 1
  | .iface _ d => uptoBulk d + 1
  | .map entries => uptoBulkEntries entries + 1
  | .held _ => 1
def uptoBulkAll {H : Type} : List (DataW H) → Nat
  | [] => 0
  | d :: r => uptoBulk d + uptoBulkAll r
def uptoBulkEntries {H : Type} : List (Lit × DataW H) → Nat
  | [] => 0
  | x :: r => uptoBulkEntry x + uptoBulkEntries r
def uptoBulkEntry {H : Type} : Lit × DataW H → Nat
  | (.string bytes, d) => bytes.length + uptoBulk d + 1
  | (_, d) => uptoBulk d + 1
 end
def uptoSmall : (H : Type) → List (DataW H) → Bool := fun _ ds => decide (uptoBulkAll ds ≤ 1048576)
def OpenSpec.upto (s : _root_.Go.ChangeSpec) : _root_.Go.OpenSpec := { _root_.Go.OpenSpec.ofChange s with cond := some uptoSmall }

/-- 'hectarelaw7.WallsClash', WHERE WHAT IT READS IS OF BULK AT MOST 1048576: true; the input reads as it did. -/
def wallsClashUptoRow : OpenClaim := { program := "ythpbgolnlmjjdaa", sum := "dfca39dc3e33ffa49c4d11ff4e63cc5ba3e758fc02fa8bc92f26509eb7d8b876", func := "hectare/hectarelaw7.WallsClash", spec := "wallsClash", unfollowed := true, recurses := true, plainKeys := false, apart := false, narrowed := true }
def WallsClashUptoSaid : Prop := wallsClashUptoRow.holds Try.pinned (OpenSpec.upto wallsClashSpec)

/-- 'hectarelaw7.WallsEnds', WHERE WHAT IT READS IS OF BULK AT MOST 1048576: true; the input reads as it did. -/
def wallsEndsUptoRow : OpenClaim := { program := "ythpbgolnlmjjdaa", sum := "dfca39dc3e33ffa49c4d11ff4e63cc5ba3e758fc02fa8bc92f26509eb7d8b876", func := "hectare/hectarelaw7.WallsEnds", spec := "wallsEnds", unfollowed := true, recurses := true, plainKeys := false, apart := false, narrowed := true }
def WallsEndsUptoSaid : Prop := wallsEndsUptoRow.holds Try.pinned (OpenSpec.upto wallsEndsSpec)

/-- 'hectarelaw7.WallsActs', WHERE WHAT IT READS IS OF BULK AT MOST 1048576: true; the input reads as it did. -/
def wallsActsUptoRow : OpenClaim := { program := "ythpbgolnlmjjdaa", sum := "dfca39dc3e33ffa49c4d11ff4e63cc5ba3e758fc02fa8bc92f26509eb7d8b876", func := "hectare/hectarelaw7.WallsActs", spec := "wallsActs", unfollowed := true, recurses := true, plainKeys := false, apart := false, narrowed := true }
def WallsActsUptoSaid : Prop := wallsActsUptoRow.holds Try.pinned (OpenSpec.upto wallsActsSpec)

end Rows
end Go.Proofs.Ythpbgolnlmjjdaa
