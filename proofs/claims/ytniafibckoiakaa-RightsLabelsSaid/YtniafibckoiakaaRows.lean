/-
  No cell of these rows narrows 'for every input' (looked for: loops, veiled, ifaces, maps, wideKeys, modest, calm, conditions, laid).
  DERIVED. THE GIVEN ROWS OF THIS SEAT. 4 by the template 'for every input the law returns true; each argument reads behind the call as it read before'; 0 by the template 'total and deterministic' (their statements: YtniafibckoiakaaTotals.lean).
  GIVEN WITH THE SEED: the statements are not yours to turn. If you find one false, say at which input.
  Laid BY PROGRAM, IN A SANDBOX (cutbox-rows.mjs): the forced cells as the released guide's own fill.sh prints them over the translation 504a79c27e27d8a0… (all of the seat's roots in one cut). By AI agents, Wed Nov 11 2026. No macro, syntax, notation, axiom, sorry.
-/
import Derived.Test.YtniafibckoiakaaChecked
import GoSem.Claim
import GoSem.ClaimJoined
import GoSem.ClaimMapViews
import Derived.JoinedTies
import Derived.KernelRfl
namespace Go.Proofs.Ytniafibckoiakaa
/- THE CELL 'sum', in the pinned program and in every row, IS THE sha256 OF THE DUMP (.gsa) THAT YtniafibckoiakaaProg.lean LOADS. Nothing in Lean hashes anything: it is a label: what it is worth is what the hold of that sum in a sandbox is worth. -/
noncomputable def Try.pinned : Pinned := { name := "ytniafibckoiakaa", sum := "504a79c27e27d8a0e3d579750e8da8159ea61f85b55eef748220a39e59b720d7", checked := Try.checked }
namespace Rows
def none {H : Type} : Left H := { results := [], args := [] }

/-- 'hectarelaw15.RightsTell': WHATEVER THE INPUT: true; the input reads as it did. -/
def rightsTellSpec : ChangeSpec := { name := "rightsTell", fn := fun _ => fun
  | [d1, d2, d3, d4, d5] => { results := [.lit (.bool true)], args := [d1, d2, d3, d4, d5] }
  | _ => none }
def rightsTellRow : OpenClaim := { program := "ytniafibckoiakaa", sum := "504a79c27e27d8a0e3d579750e8da8159ea61f85b55eef748220a39e59b720d7", func := "hectare/hectarelaw15.RightsTell", spec := "rightsTell", apart := false }
def RightsTellSaid : Prop := rightsTellRow.holds Try.pinned (OpenSpec.ofChange rightsTellSpec)

/-- ITS FALSE NEIGHBOUR: 'it returns false'. Refute it at one input. -/
def rightsTellWrong : ChangeSpec := { name := "rightsTell", fn := fun _ => fun
  | [d1, d2, d3, d4, d5] => { results := [.lit (.bool false)], args := [d1, d2, d3, d4, d5] }
  | _ => none }
def RightsTellWrongFalsely : Prop := rightsTellRow.holds Try.pinned (OpenSpec.ofChange rightsTellWrong)

/-- 'hectarelaw15.RightsGoOn': WHATEVER THE INPUT: true; the input reads as it did. -/
def rightsGoOnSpec : ChangeSpec := { name := "rightsGoOn", fn := fun _ => fun
  | [d1, d2, d3] => { results := [.lit (.bool true)], args := [d1, d2, d3] }
  | _ => none }
def rightsGoOnRow : OpenClaim := { program := "ytniafibckoiakaa", sum := "504a79c27e27d8a0e3d579750e8da8159ea61f85b55eef748220a39e59b720d7", func := "hectare/hectarelaw15.RightsGoOn", spec := "rightsGoOn", apart := false }
def RightsGoOnSaid : Prop := rightsGoOnRow.holds Try.pinned (OpenSpec.ofChange rightsGoOnSpec)

/-- ITS FALSE NEIGHBOUR: 'it returns false'. Refute it at one input. -/
def rightsGoOnWrong : ChangeSpec := { name := "rightsGoOn", fn := fun _ => fun
  | [d1, d2, d3] => { results := [.lit (.bool false)], args := [d1, d2, d3] }
  | _ => none }
def RightsGoOnWrongFalsely : Prop := rightsGoOnRow.holds Try.pinned (OpenSpec.ofChange rightsGoOnWrong)

/-- 'hectarelaw15.RightsBits': WHATEVER THE INPUT: true; the input reads as it did. -/
def rightsBitsSpec : ChangeSpec := { name := "rightsBits", fn := fun _ => fun
  | [d1, d2] => { results := [.lit (.bool true)], args := [d1, d2] }
  | _ => none }
def rightsBitsRow : OpenClaim := { program := "ytniafibckoiakaa", sum := "504a79c27e27d8a0e3d579750e8da8159ea61f85b55eef748220a39e59b720d7", func := "hectare/hectarelaw15.RightsBits", spec := "rightsBits", apart := false }
def RightsBitsSaid : Prop := rightsBitsRow.holds Try.pinned (OpenSpec.ofChange rightsBitsSpec)

/-- ITS FALSE NEIGHBOUR: 'it returns false'. Refute it at one input. -/
def rightsBitsWrong : ChangeSpec := { name := "rightsBits", fn := fun _ => fun
  | [d1, d2] => { results := [.lit (.bool false)], args := [d1, d2] }
  | _ => none }
def RightsBitsWrongFalsely : Prop := rightsBitsRow.holds Try.pinned (OpenSpec.ofChange rightsBitsWrong)

/-- 'hectarelaw15.RightsLabels': WHATEVER THE INPUT: true; the input reads as it did. -/
def rightsLabelsSpec : ChangeSpec := { name := "rightsLabels", fn := fun _ => fun
  | [d1, d2, d3, d4] => { results := [.lit (.bool true)], args := [d1, d2, d3, d4] }
  | _ => none }
def rightsLabelsRow : OpenClaim := { program := "ytniafibckoiakaa", sum := "504a79c27e27d8a0e3d579750e8da8159ea61f85b55eef748220a39e59b720d7", func := "hectare/hectarelaw15.RightsLabels", spec := "rightsLabels", apart := false }
def RightsLabelsSaid : Prop := rightsLabelsRow.holds Try.pinned (OpenSpec.ofChange rightsLabelsSpec)

/-- ITS FALSE NEIGHBOUR: 'it returns false'. Refute it at one input. -/
def rightsLabelsWrong : ChangeSpec := { name := "rightsLabels", fn := fun _ => fun
  | [d1, d2, d3, d4] => { results := [.lit (.bool false)], args := [d1, d2, d3, d4] }
  | _ => none }
def RightsLabelsWrongFalsely : Prop := rightsLabelsRow.holds Try.pinned (OpenSpec.ofChange rightsLabelsWrong)

/- THE SECOND FORM. 'bulk': how many values and letters a reading holds, each counted each time it is reached (what is shared counts as often as it is met; a slice's spare places count too). A statement '..UptoSaid' is the law's where the arguments, and the package variables that the reading takes, are together of bulk at most 1048576: NARROWER than '..Said'. Prove '..Said' where nothing that the law and all that it calls make is longer than what came in: it says more and counts as full. Else prove '..UptoSaid'. A law counts once. -/
mutual
def uptoBulk {H : Type} : DataW H → Nat
  | .lit (.string bytes) => bytes.length + 1
  | .lit _ => 1
  | .nil => 1
  | .ptr d => uptoBulk d + 1
  | .slice elems spare => uptoBulkAll elems + uptoBulkAll spare + 1
  | .agg parts => uptoBulkAll parts + 1
  | .iface _ d => uptoBulk d + 1
  | .map entries => uptoBulkEntries entries + 1
  | .held _ => 1
def uptoBulkAll {H : Type} : List (DataW H) → Nat
  | [] => 0
  | d :: r => uptoBulk d + uptoBulkAll r
def uptoBulkEntries {H : Type} : List (Lit × DataW H) → Nat
  | [] => 0
  | x :: r => uptoBulkEntry x + uptoBulkEntries r
def uptoBulkEntry {H : Type} : Lit × DataW H → Nat
  | (.string bytes, d) => bytes.length + uptoBulk d + 1
  | (_, d) => uptoBulk d + 1
 end
def uptoSmall : (H : Type) → List (DataW H) → Bool := fun _ ds => decide (uptoBulkAll ds ≤ 1048576)
def OpenSpec.upto (s : _root_.Go.ChangeSpec) : _root_.Go.OpenSpec := { _root_.Go.OpenSpec.ofChange s with cond := some uptoSmall }

/-- 'hectarelaw15.RightsTell', WHERE WHAT IT READS IS OF BULK AT MOST 1048576: true; the input reads as it did. -/
def rightsTellUptoRow : OpenClaim := { program := "ytniafibckoiakaa", sum := "504a79c27e27d8a0e3d579750e8da8159ea61f85b55eef748220a39e59b720d7", func := "hectare/hectarelaw15.RightsTell", spec := "rightsTell", apart := false, narrowed := true }
def RightsTellUptoSaid : Prop := rightsTellUptoRow.holds Try.pinned (OpenSpec.upto rightsTellSpec)

/-- 'hectarelaw15.RightsGoOn', WHERE WHAT IT READS IS OF BULK AT MOST 1048576: true; the input reads as it did. -/
def rightsGoOnUptoRow : OpenClaim := { program := "ytniafibckoiakaa", sum := "504a79c27e27d8a0e3d579750e8da8159ea61f85b55eef748220a39e59b720d7", func := "hectare/hectarelaw15.RightsGoOn", spec := "rightsGoOn", apart := false, narrowed := true }
def RightsGoOnUptoSaid : Prop := rightsGoOnUptoRow.holds Try.pinned (OpenSpec.upto rightsGoOnSpec)

/-- 'hectarelaw15.RightsBits', WHERE WHAT IT READS IS OF BULK AT MOST 1048576: true; the input reads as it did. -/
def rightsBitsUptoRow : OpenClaim := { program := "ytniafibckoiakaa", sum := "504a79c27e27d8a0e3d579750e8da8159ea61f85b55eef748220a39e59b720d7", func := "hectare/hectarelaw15.RightsBits", spec := "rightsBits", apart := false, narrowed := true }
def RightsBitsUptoSaid : Prop := rightsBitsUptoRow.holds Try.pinned (OpenSpec.upto rightsBitsSpec)

/-- 'hectarelaw15.RightsLabels', WHERE WHAT IT READS IS OF BULK AT MOST 1048576: true; the input reads as it did. -/
def rightsLabelsUptoRow : OpenClaim := { program := "ytniafibckoiakaa", sum := "504a79c27e27d8a0e3d579750e8da8159ea61f85b55eef748220a39e59b720d7", func := "hectare/hectarelaw15.RightsLabels", spec := "rightsLabels", apart := false, narrowed := true }
def RightsLabelsUptoSaid : Prop := rightsLabelsUptoRow.holds Try.pinned (OpenSpec.upto rightsLabelsSpec)

end Rows
end Go.Proofs.Ytniafibckoiakaa
