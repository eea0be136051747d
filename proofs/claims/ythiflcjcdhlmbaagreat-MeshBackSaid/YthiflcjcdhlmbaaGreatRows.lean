/-
  No cell of these rows narrows 'for every input' (looked for: loops, veiled, ifaces, maps, wideKeys, modest, calm, conditions, laid).
  DERIVED. THE GIVEN ROWS OF THIS SEAT. 3 by the template 'for every input the law returns true; each argument reads behind the call as it read before'; 0 by the template 'total and deterministic' (their statements: YthiflcjcdhlmbaaGreatTotals.lean).
  GIVEN WITH THE SEED: the statements are not yours to turn. If you find one false, say at which input.
  Laid BY PROGRAM, IN A SANDBOX (cutbox-rows.mjs): the forced cells as the released guide's own fill.sh prints them over the translation 728ddb5add75b9d5… (all of the seat's roots in one cut). By AI agents, Wed Nov 11 2026. No macro, syntax, notation, axiom, sorry.
-/
import Derived.Test.YthiflcjcdhlmbaaGreatChecked
import GoSem.Claim
import GoSem.ClaimJoined
import GoSem.ClaimMapViews
import Derived.JoinedTies
import Derived.KernelRfl
namespace Go.Proofs.YthiflcjcdhlmbaaGreat
/- THE CELL 'sum', in the pinned program and in every row, IS THE sha256 OF THE DUMP (.gsa) THAT YthiflcjcdhlmbaaGreatProg.lean LOADS. Nothing in Lean hashes anything: it is a label: what it is worth is what the hold of that sum in a sandbox is worth. -/
noncomputable def Tryz.pinned : Pinned := { name := "ythiflcjcdhlmbaagreat", sum := "728ddb5add75b9d512f57baf90d2a82fcd0543dfe1f6294322d495e1eb7de46c", checked := Tryz.checked }
namespace Rows
def none {H : Type} : Left H := { results := [], args := [] }

/-- 'hectarelaw5.MeshFlips': WHATEVER THE INPUT: true; the input reads as it did. -/
def meshFlipsSpec : ChangeSpec := { name := "meshFlips", fn := fun _ => fun
  | [d1, d2, d3, d4] => { results := [.lit (.bool true)], args := [d1, d2, d3, d4] }
  | _ => none }
def meshFlipsRow : OpenClaim := { program := "ythiflcjcdhlmbaagreat", sum := "728ddb5add75b9d512f57baf90d2a82fcd0543dfe1f6294322d495e1eb7de46c", func := "hectare/hectarelaw5.MeshFlips", spec := "meshFlips", unfollowed := true, recurses := true, plainKeys := false, apart := false }
def MeshFlipsSaid : Prop := meshFlipsRow.holds Tryz.pinned (OpenSpec.ofChange meshFlipsSpec)

/-- ITS FALSE NEIGHBOUR: 'it returns false'. Refute it at one input. -/
def meshFlipsWrong : ChangeSpec := { name := "meshFlips", fn := fun _ => fun
  | [d1, d2, d3, d4] => { results := [.lit (.bool false)], args := [d1, d2, d3, d4] }
  | _ => none }
def MeshFlipsWrongFalsely : Prop := meshFlipsRow.holds Tryz.pinned (OpenSpec.ofChange meshFlipsWrong)

/-- 'hectarelaw5.MeshBack': WHATEVER THE INPUT: true; the input reads as it did. -/
def meshBackSpec : ChangeSpec := { name := "meshBack", fn := fun _ => fun
  | [d1, d2, d3, d4] => { results := [.lit (.bool true)], args := [d1, d2, d3, d4] }
  | _ => none }
def meshBackRow : OpenClaim := { program := "ythiflcjcdhlmbaagreat", sum := "728ddb5add75b9d512f57baf90d2a82fcd0543dfe1f6294322d495e1eb7de46c", func := "hectare/hectarelaw5.MeshBack", spec := "meshBack", unfollowed := true, recurses := true, plainKeys := false, apart := false }
def MeshBackSaid : Prop := meshBackRow.holds Tryz.pinned (OpenSpec.ofChange meshBackSpec)

/-- ITS FALSE NEIGHBOUR: 'it returns false'. Refute it at one input. -/
def meshBackWrong : ChangeSpec := { name := "meshBack", fn := fun _ => fun
  | [d1, d2, d3, d4] => { results := [.lit (.bool false)], args := [d1, d2, d3, d4] }
  | _ => none }
def MeshBackWrongFalsely : Prop := meshBackRow.holds Tryz.pinned (OpenSpec.ofChange meshBackWrong)

/-- 'hectarelaw5.MeshReplace': WHATEVER THE INPUT: true; the input reads as it did. -/
def meshReplaceSpec : ChangeSpec := { name := "meshReplace", fn := fun _ => fun
  | [d1, d2, d3, d4] => { results := [.lit (.bool true)], args := [d1, d2, d3, d4] }
  | _ => none }
def meshReplaceRow : OpenClaim := { program := "ythiflcjcdhlmbaagreat", sum := "728ddb5add75b9d512f57baf90d2a82fcd0543dfe1f6294322d495e1eb7de46c", func := "hectare/hectarelaw5.MeshReplace", spec := "meshReplace", unfollowed := true, recurses := true, plainKeys := false, apart := false }
def MeshReplaceSaid : Prop := meshReplaceRow.holds Tryz.pinned (OpenSpec.ofChange meshReplaceSpec)

/-- ITS FALSE NEIGHBOUR: 'it returns false'. Refute it at one input. -/
def meshReplaceWrong : ChangeSpec := { name := "meshReplace", fn := fun _ => fun
  | [d1, d2, d3, d4] => { results := [.lit (.bool false)], args := [d1, d2, d3, d4] }
  | _ => none }
def MeshReplaceWrongFalsely : Prop := meshReplaceRow.holds Tryz.pinned (OpenSpec.ofChange meshReplaceWrong)

/- THE SECOND FORM. 'bulk': how many values and letters a reading holds, each counted each time it is reached (what is shared counts as often as it is met; a slice's spare places count too). A statement '..UptoSaid' is the law's where the arguments, and the package variables that the reading takes, are together of bulk at most 1048576: NARROWER than '..Said'. Prove '..Said' where nothing that the law and all that it calls make is longer than what came in: it says more and counts as full. Else prove '..UptoSaid'. A law counts once. -/
mutual
def uptoBulk {H : Type} : DataW H → Nat
  | .lit (.string bytes) => bytes.length + 1
  | .lit _ => 1
  | .nil => 1
  | .ptr d => uptoBulk d + 1
  | .slice elems spare => uptoBulkAll elems + uptoBulkAll spare + 1
  | .agg parts => uptoBulkAll parts + 1
  | .iface _ d => uptoBulk d + 1
  | .map entries => uptoBulkEntries entries + 1
  | .held _ => 1
def uptoBulkAll {H : Type} : List (DataW H) → Nat
  | [] => 0
  | d :: r => uptoBulk d + uptoBulkAll r
def uptoBulkEntries {H : Type} : List (Lit × DataW H) → Nat
  | [] => 0
  | x :: r => uptoBulkEntry x + uptoBulkEntries r
def uptoBulkEntry {H : Type} : Lit × DataW H → Nat
  | (.string bytes, d) => bytes.length + uptoBulk d + 1
  | (_, d) => uptoBulk d + 1
 end
def uptoSmall : (H : Type) → List (DataW H) → Bool := fun _ ds => decide (uptoBulkAll ds ≤ 1048576)
def OpenSpec.upto (s : _root_.Go.ChangeSpec) : _root_.Go.OpenSpec := { _root_.Go.OpenSpec.ofChange s with cond := some uptoSmall }

/-- 'hectarelaw5.MeshFlips', WHERE WHAT IT READS IS OF BULK AT MOST 1048576: true; the input reads as it did. -/
def meshFlipsUptoRow : OpenClaim := { program := "ythiflcjcdhlmbaagreat", sum := "728ddb5add75b9d512f57baf90d2a82fcd0543dfe1f6294322d495e1eb7de46c", func := "hectare/hectarelaw5.MeshFlips", spec := "meshFlips", unfollowed := true, recurses := true, plainKeys := false, apart := false, narrowed := true }
def MeshFlipsUptoSaid : Prop := meshFlipsUptoRow.holds Tryz.pinned (OpenSpec.upto meshFlipsSpec)

/-- 'hectarelaw5.MeshBack', WHERE WHAT IT READS IS OF BULK AT MOST 1048576: true; the input reads as it did. -/
def meshBackUptoRow : OpenClaim := { program := "ythiflcjcdhlmbaagreat", sum := "728ddb5add75b9d512f57baf90d2a82fcd0543dfe1f6294322d495e1eb7de46c", func := "hectare/hectarelaw5.MeshBack", spec := "meshBack", unfollowed := true, recurses := true, plainKeys := false, apart := false, narrowed := true }
def MeshBackUptoSaid : Prop := meshBackUptoRow.holds Tryz.pinned (OpenSpec.upto meshBackSpec)

/-- 'hectarelaw5.MeshReplace', WHERE WHAT IT READS IS OF BULK AT MOST 1048576: true; the input reads as it did. -/
def meshReplaceUptoRow : OpenClaim := { program := "ythiflcjcdhlmbaagreat", sum := "728ddb5add75b9d512f57baf90d2a82fcd0543dfe1f6294322d495e1eb7de46c", func := "hectare/hectarelaw5.MeshReplace", spec := "meshReplace", unfollowed := true, recurses := true, plainKeys := false, apart := false, narrowed := true }
def MeshReplaceUptoSaid : Prop := meshReplaceUptoRow.holds Tryz.pinned (OpenSpec.upto meshReplaceSpec)

end Rows
end Go.Proofs.YthiflcjcdhlmbaaGreat
