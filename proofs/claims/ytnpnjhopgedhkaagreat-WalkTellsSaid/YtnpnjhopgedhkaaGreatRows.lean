/-
  No cell of these rows narrows 'for every input' (looked for: loops, veiled, ifaces, maps, wideKeys, modest, calm, conditions, laid).
  DERIVED. THE GIVEN ROWS OF THIS SEAT. 4 by the template 'for every input the law returns true; each argument reads behind the call as it read before'; 0 by the template 'total and deterministic' (their statements: YtnpnjhopgedhkaaGreatTotals.lean).
  GIVEN WITH THE SEED: the statements are not yours to turn. If you find one false, say at which input.
  Laid BY PROGRAM, IN A SANDBOX (cutbox-rows.mjs): the forced cells as the released guide's own fill.sh prints them over the translation 896062a8d96ff09b… (all of the seat's roots in one cut). By AI agents, Wed Nov 11 2026. No macro, syntax, notation, axiom, sorry.
-/
import Derived.Test.YtnpnjhopgedhkaaGreatChecked
import GoSem.Claim
import GoSem.ClaimJoined
import GoSem.ClaimMapViews
import Derived.JoinedTies
import Derived.KernelRfl
namespace Go.Proofs.YtnpnjhopgedhkaaGreat
/- THE CELL 'sum', in the pinned program and in every row, IS THE sha256 OF THE DUMP (.gsa) THAT YtnpnjhopgedhkaaGreatProg.lean LOADS. Nothing in Lean hashes anything: it is a label: what it is worth is what the hold of that sum in a sandbox is worth. -/
noncomputable def Tryz.pinned : Pinned := { name := "ytnpnjhopgedhkaagreat", sum := "896062a8d96ff09bbe46b18fe7055a316c4965d2b4791a4153a9e84e0b88b2dc", checked := Tryz.checked }
namespace Rows
def none {H : Type} : Left H := { results := [], args := [] }

/-- 'hectarelaw6.WalkTells': WHATEVER THE INPUT: true; the input reads as it did. -/
def walkTellsSpec : ChangeSpec := { name := "walkTells", fn := fun _ => fun
  | [d1, d2, d3, d4, d5] => { results := [.lit (.bool true)], args := [d1, d2, d3, d4, d5] }
  | _ => none }
def walkTellsRow : OpenClaim := { program := "ytnpnjhopgedhkaagreat", sum := "896062a8d96ff09bbe46b18fe7055a316c4965d2b4791a4153a9e84e0b88b2dc", func := "hectare/hectarelaw6.WalkTells", spec := "walkTells", inPlace := ["math/bits.Sub64"], unfollowed := true, recurses := true, plainKeys := false, apart := false }
def WalkTellsSaid : Prop := walkTellsRow.holds Tryz.pinned (OpenSpec.ofChange walkTellsSpec)

/-- ITS FALSE NEIGHBOUR: 'it returns false'. Refute it at one input. -/
def walkTellsWrong : ChangeSpec := { name := "walkTells", fn := fun _ => fun
  | [d1, d2, d3, d4, d5] => { results := [.lit (.bool false)], args := [d1, d2, d3, d4, d5] }
  | _ => none }
def WalkTellsWrongFalsely : Prop := walkTellsRow.holds Tryz.pinned (OpenSpec.ofChange walkTellsWrong)

/-- 'hectarelaw6.WalkTrails': WHATEVER THE INPUT: true; the input reads as it did. -/
def walkTrailsSpec : ChangeSpec := { name := "walkTrails", fn := fun _ => fun
  | [d1, d2, d3, d4] => { results := [.lit (.bool true)], args := [d1, d2, d3, d4] }
  | _ => none }
def walkTrailsRow : OpenClaim := { program := "ytnpnjhopgedhkaagreat", sum := "896062a8d96ff09bbe46b18fe7055a316c4965d2b4791a4153a9e84e0b88b2dc", func := "hectare/hectarelaw6.WalkTrails", spec := "walkTrails", inPlace := ["math/bits.Sub64"], unfollowed := true, recurses := true, plainKeys := false, apart := false }
def WalkTrailsSaid : Prop := walkTrailsRow.holds Tryz.pinned (OpenSpec.ofChange walkTrailsSpec)

/-- ITS FALSE NEIGHBOUR: 'it returns false'. Refute it at one input. -/
def walkTrailsWrong : ChangeSpec := { name := "walkTrails", fn := fun _ => fun
  | [d1, d2, d3, d4] => { results := [.lit (.bool false)], args := [d1, d2, d3, d4] }
  | _ => none }
def WalkTrailsWrongFalsely : Prop := walkTrailsRow.holds Tryz.pinned (OpenSpec.ofChange walkTrailsWrong)

/-- 'hectarelaw6.WalkCovers': WHATEVER THE INPUT: true; the input reads as it did. -/
def walkCoversSpec : ChangeSpec := { name := "walkCovers", fn := fun _ => fun
  | [d1, d2, d3, d4, d5] => { results := [.lit (.bool true)], args := [d1, d2, d3, d4, d5] }
  | _ => none }
def walkCoversRow : OpenClaim := { program := "ytnpnjhopgedhkaagreat", sum := "896062a8d96ff09bbe46b18fe7055a316c4965d2b4791a4153a9e84e0b88b2dc", func := "hectare/hectarelaw6.WalkCovers", spec := "walkCovers", inPlace := ["math/bits.Sub64"], unfollowed := true, recurses := true, plainKeys := false, apart := false }
def WalkCoversSaid : Prop := walkCoversRow.holds Tryz.pinned (OpenSpec.ofChange walkCoversSpec)

/-- ITS FALSE NEIGHBOUR: 'it returns false'. Refute it at one input. -/
def walkCoversWrong : ChangeSpec := { name := "walkCovers", fn := fun _ => fun
  | [d1, d2, d3, d4, d5] => { results := [.lit (.bool false)], args := [d1, d2, d3, d4, d5] }
  | _ => none }
def WalkCoversWrongFalsely : Prop := walkCoversRow.holds Tryz.pinned (OpenSpec.ofChange walkCoversWrong)

/-- 'hectarelaw6.WalkStars': WHATEVER THE INPUT: true; the input reads as it did. -/
def walkStarsSpec : ChangeSpec := { name := "walkStars", fn := fun _ => fun
  | [d1, d2] => { results := [.lit (.bool true)], args := [d1, d2] }
  | _ => none }
def walkStarsRow : OpenClaim := { program := "ytnpnjhopgedhkaagreat", sum := "896062a8d96ff09bbe46b18fe7055a316c4965d2b4791a4153a9e84e0b88b2dc", func := "hectare/hectarelaw6.WalkStars", spec := "walkStars", inPlace := ["math/bits.Sub64"], unfollowed := true, recurses := true, plainKeys := false, apart := false }
def WalkStarsSaid : Prop := walkStarsRow.holds Tryz.pinned (OpenSpec.ofChange walkStarsSpec)

/-- ITS FALSE NEIGHBOUR: 'it returns false'. Refute it at one input. -/
def walkStarsWrong : ChangeSpec := { name := "walkStars", fn := fun _ => fun
  | [d1, d2] => { results := [.lit (.bool false)], args := [d1, d2] }
  | _ => none }
def WalkStarsWrongFalsely : Prop := walkStarsRow.holds Tryz.pinned (OpenSpec.ofChange walkStarsWrong)

/- THE SECOND FORM. 'bulk': how many values and letters a reading holds, each counted each time it is reached (what is shared counts as often as it is met; a slice's spare places count too). A statement '..UptoSaid' is the law's where the arguments, and the package variables that the reading takes, are together of bulk at most 1048576: NARROWER than '..Said'. Prove '..Said' where nothing that the law and all that it calls make is longer than what came in: it says more and counts as full. Else prove '..UptoSaid'. A law counts once. -/
mutual
def uptoBulk {H : Type} : DataW H → Nat
  | .lit (.string bytes) => bytes.length + 1
  | .lit _ => 1
  | .nil => 1
  | .ptr d => uptoBulk d + 1
  | .slice elems spare => uptoBulkAll elems + uptoBulkAll spare + 1
  | .agg parts => uptoBulkAll parts + 1
  | .iface _ d => uptoBulk d + 1
  | .map entries => uptoBulkEntries entries + 1
  | .held _ => 1
def uptoBulkAll {H : Type} : List (DataW H) → Nat
  | [] => 0
  | d :: r => uptoBulk d + uptoBulkAll r
def uptoBulkEntries {H : Type} : List (Lit × DataW H) → Nat
  | [] => 0
  | x :: r => uptoBulkEntry x + uptoBulkEntries r
def uptoBulkEntry {H : Type} : Lit × DataW H → Nat
  | (.string bytes, d) => bytes.length + uptoBulk d + 1
  | (_, d) => uptoBulk d + 1
 end
def uptoSmall : (H : Type) → List (DataW H) → Bool := fun _ ds => decide (uptoBulkAll ds ≤ 1048576)
def OpenSpec.upto (s : _root_.Go.ChangeSpec) : _root_.Go.OpenSpec := { _root_.Go.OpenSpec.ofChange s with cond := some uptoSmall }

/-- 'hectarelaw6.WalkTells', WHERE WHAT IT READS IS OF BULK AT MOST 1048576: true; the input reads as it did. -/
def walkTellsUptoRow : OpenClaim := { program := "ytnpnjhopgedhkaagreat", sum := "896062a8d96ff09bbe46b18fe7055a316c4965d2b4791a4153a9e84e0b88b2dc", func := "hectare/hectarelaw6.WalkTells", spec := "walkTells", inPlace := ["math/bits.Sub64"], unfollowed := true, recurses := true, plainKeys := false, apart := false, narrowed := true }
def WalkTellsUptoSaid : Prop := walkTellsUptoRow.holds Tryz.pinned (OpenSpec.upto walkTellsSpec)

/-- 'hectarelaw6.WalkTrails', WHERE WHAT IT READS IS OF BULK AT MOST 1048576: true; the input reads as it did. -/
def walkTrailsUptoRow : OpenClaim := { program := "ytnpnjhopgedhkaagreat", sum := "896062a8d96ff09bbe46b18fe7055a316c4965d2b4791a4153a9e84e0b88b2dc", func := "hectare/hectarelaw6.WalkTrails", spec := "walkTrails", inPlace := ["math/bits.Sub64"], unfollowed := true, recurses := true, plainKeys := false, apart := false, narrowed := true }
def WalkTrailsUptoSaid : Prop := walkTrailsUptoRow.holds Tryz.pinned (OpenSpec.upto walkTrailsSpec)

/-- 'hectarelaw6.WalkCovers', WHERE WHAT IT READS IS OF BULK AT MOST 1048576: true; the input reads as it did. -/
def walkCoversUptoRow : OpenClaim := { program := "ytnpnjhopgedhkaagreat", sum := "896062a8d96ff09bbe46b18fe7055a316c4965d2b4791a4153a9e84e0b88b2dc", func := "hectare/hectarelaw6.WalkCovers", spec := "walkCovers", inPlace := ["math/bits.Sub64"], unfollowed := true, recurses := true, plainKeys := false, apart := false, narrowed := true }
def WalkCoversUptoSaid : Prop := walkCoversUptoRow.holds Tryz.pinned (OpenSpec.upto walkCoversSpec)

/-- 'hectarelaw6.WalkStars', WHERE WHAT IT READS IS OF BULK AT MOST 1048576: true; the input reads as it did. -/
def walkStarsUptoRow : OpenClaim := { program := "ytnpnjhopgedhkaagreat", sum := "896062a8d96ff09bbe46b18fe7055a316c4965d2b4791a4153a9e84e0b88b2dc", func := "hectare/hectarelaw6.WalkStars", spec := "walkStars", inPlace := ["math/bits.Sub64"], unfollowed := true, recurses := true, plainKeys := false, apart := false, narrowed := true }
def WalkStarsUptoSaid : Prop := walkStarsUptoRow.holds Tryz.pinned (OpenSpec.upto walkStarsSpec)

end Rows
end Go.Proofs.YtnpnjhopgedhkaaGreat
