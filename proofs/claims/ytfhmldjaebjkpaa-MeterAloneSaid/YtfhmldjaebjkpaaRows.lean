/-
  No cell of these rows narrows 'for every input' (looked for: loops, veiled, ifaces, maps, wideKeys, modest, calm, conditions, laid).
  DERIVED. THE GIVEN ROWS OF THIS SEAT. 2 by the template 'for every input the law returns true; each argument reads behind the call as it read before'; 0 by the template 'total and deterministic' (their statements: YtfhmldjaebjkpaaTotals.lean).
  GIVEN WITH THE SEED: the statements are not yours to turn. If you find one false, say at which input.
  Laid BY PROGRAM, IN A SANDBOX (cutbox-rows.mjs): the forced cells as the released guide's own fill.sh prints them over the translation 65a7bb90aeb05969… (all of the seat's roots in one cut). By AI agents, Wed Nov 11 2026. No macro, syntax, notation, axiom, sorry.
-/
import Derived.Test.YtfhmldjaebjkpaaChecked
import GoSem.Claim
import GoSem.ClaimJoined
import GoSem.ClaimMapViews
import Derived.JoinedTies
import Derived.KernelRfl
namespace Go.Proofs.Ytfhmldjaebjkpaa
/- THE CELL 'sum', in the pinned program and in every row, IS THE sha256 OF THE DUMP (.gsa) THAT YtfhmldjaebjkpaaProg.lean LOADS. Nothing in Lean hashes anything: it is a label: what it is worth is what the hold of that sum in a sandbox is worth. -/
noncomputable def Try.pinned : Pinned := { name := "ytfhmldjaebjkpaa", sum := "65a7bb90aeb05969fa14651b5fd4082f81f819fbc4f6c999fe7a618385c65eff", checked := Try.checked }
namespace Rows
def none {H : Type} : Left H := { results := [], args := [] }

/-- 'hectarelaw17.MeterWindow': WHATEVER THE INPUT: true; the input reads as it did. -/
def meterWindowSpec : ChangeSpec := { name := "meterWindow", fn := fun _ => fun
  | [d1, d2, d3, d4] => { results := [.lit (.bool true)], args := [d1, d2, d3, d4] }
  | _ => none }
def meterWindowRow : OpenClaim := { program := "ytfhmldjaebjkpaa", sum := "65a7bb90aeb05969fa14651b5fd4082f81f819fbc4f6c999fe7a618385c65eff", func := "hectare/hectarelaw17.MeterWindow", spec := "meterWindow", inPlace := ["sync/atomic.StoreInt64", "sync/atomic.LoadInt64", "sync/atomic.AddInt64"], apart := false }
def MeterWindowSaid : Prop := meterWindowRow.holds Try.pinned (OpenSpec.ofChange meterWindowSpec)

/-- ITS FALSE NEIGHBOUR: 'it returns false'. Refute it at one input. -/
def meterWindowWrong : ChangeSpec := { name := "meterWindow", fn := fun _ => fun
  | [d1, d2, d3, d4] => { results := [.lit (.bool false)], args := [d1, d2, d3, d4] }
  | _ => none }
def MeterWindowWrongFalsely : Prop := meterWindowRow.holds Try.pinned (OpenSpec.ofChange meterWindowWrong)

/-- 'hectarelaw17.MeterAlone': WHATEVER THE INPUT: true; the input reads as it did. -/
def meterAloneSpec : ChangeSpec := { name := "meterAlone", fn := fun _ => fun
  | [d1, d2, d3] => { results := [.lit (.bool true)], args := [d1, d2, d3] }
  | _ => none }
def meterAloneRow : OpenClaim := { program := "ytfhmldjaebjkpaa", sum := "65a7bb90aeb05969fa14651b5fd4082f81f819fbc4f6c999fe7a618385c65eff", func := "hectare/hectarelaw17.MeterAlone", spec := "meterAlone", inPlace := ["sync/atomic.StoreInt64", "sync/atomic.LoadInt64", "sync/atomic.AddInt64"], apart := false }
def MeterAloneSaid : Prop := meterAloneRow.holds Try.pinned (OpenSpec.ofChange meterAloneSpec)

/-- ITS FALSE NEIGHBOUR: 'it returns false'. Refute it at one input. -/
def meterAloneWrong : ChangeSpec := { name := "meterAlone", fn := fun _ => fun
  | [d1, d2, d3] => { results := [.lit (.bool false)], args := [d1, d2, d3] }
  | _ => none }
def MeterAloneWrongFalsely : Prop := meterAloneRow.holds Try.pinned (OpenSpec.ofChange meterAloneWrong)

/- THE SECOND FORM. 'bulk': how many values and letters a reading holds, each counted each time it is reached (what is shared counts as often as it is met; a slice's spare places count too). A statement '..UptoSaid' is the law's where the arguments, and the package variables that the reading takes, are together of bulk at most 1048576: NARROWER than '..Said'. Prove '..Said' where nothing that the law and all that it calls make is longer than what came in: it says more and counts as full. Else prove '..UptoSaid'. A law counts once. -/
mutual
def uptoBulk {H : Type} : DataW H → Nat
  | .lit (.string bytes) => bytes.length + 1
  | .lit _ => 1
  | .nil => 1
  | .ptr d => uptoBulk d + 1
  | .slice elems spare => uptoBulkAll elems + uptoBulkAll spare + 1
  | .agg parts => uptoBulkAll parts + 1
  | .iface _ d => uptoBulk d + 1
  | .map entries => uptoBulkEntries entries + 1
  | .held _ => 1
def uptoBulkAll {H : Type} : List (DataW H) → Nat
  | [] => 0
  | d :: r => uptoBulk d + uptoBulkAll r
def uptoBulkEntries {H : Type} : List (Lit × DataW H) → Nat
  | [] => 0
  | x :: r => uptoBulkEntry x + uptoBulkEntries r
def uptoBulkEntry {H : Type} : Lit × DataW H → Nat
  | (.string bytes, d) => bytes.length + uptoBulk d + 1
  | (_, d) => uptoBulk d + 1
 end
def uptoSmall : (H : Type) → List (DataW H) → Bool := fun _ ds => decide (uptoBulkAll ds ≤ 1048576)
def OpenSpec.upto (s : _root_.Go.ChangeSpec) : _root_.Go.OpenSpec := { _root_.Go.OpenSpec.ofChange s with cond := some uptoSmall }

/-- 'hectarelaw17.MeterWindow', WHERE WHAT IT READS IS OF BULK AT MOST 1048576: true; the input reads as it did. -/
def meterWindowUptoRow : OpenClaim := { program := "ytfhmldjaebjkpaa", sum := "65a7bb90aeb05969fa14651b5fd4082f81f819fbc4f6c999fe7a618385c65eff", func := "hectare/hectarelaw17.MeterWindow", spec := "meterWindow", inPlace := ["sync/atomic.StoreInt64", "sync/atomic.LoadInt64", "sync/atomic.AddInt64"], apart := false, narrowed := true }
def MeterWindowUptoSaid : Prop := meterWindowUptoRow.holds Try.pinned (OpenSpec.upto meterWindowSpec)

/-- 'hectarelaw17.MeterAlone', WHERE WHAT IT READS IS OF BULK AT MOST 1048576: true; the input reads as it did. -/
def meterAloneUptoRow : OpenClaim := { program := "ytfhmldjaebjkpaa", sum := "65a7bb90aeb05969fa14651b5fd4082f81f819fbc4f6c999fe7a618385c65eff", func := "hectare/hectarelaw17.MeterAlone", spec := "meterAlone", inPlace := ["sync/atomic.StoreInt64", "sync/atomic.LoadInt64", "sync/atomic.AddInt64"], apart := false, narrowed := true }
def MeterAloneUptoSaid : Prop := meterAloneUptoRow.holds Try.pinned (OpenSpec.upto meterAloneSpec)

end Rows
end Go.Proofs.Ytfhmldjaebjkpaa
