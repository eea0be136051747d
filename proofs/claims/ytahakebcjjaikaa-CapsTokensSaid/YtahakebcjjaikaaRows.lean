/-
  No cell of these rows narrows 'for every input' (looked for: loops, veiled, ifaces, maps, wideKeys, modest, calm, conditions, laid).
  DERIVED. THE GIVEN ROWS OF THIS SEAT. 7 by the template 'for every input the law returns true; each argument reads behind the call as it read before'; 0 by the template 'total and deterministic' (their statements: YtahakebcjjaikaaTotals.lean).
  GIVEN WITH THE SEED: the statements are not yours to turn. If you find one false, say at which input.
  Laid BY PROGRAM, IN A SANDBOX (cutbox-rows.mjs): the forced cells as the released guide's own fill.sh prints them over the translation 1c53582522fb6cd2… (all of the seat's roots in one cut). By AI agents, Wed Nov 11 2026. No macro, syntax, notation, axiom, sorry.
-/
import Derived.Test.YtahakebcjjaikaaChecked
import GoSem.Claim
import GoSem.ClaimJoined
import GoSem.ClaimMapViews
import Derived.JoinedTies
import Derived.KernelRfl
namespace Go.Proofs.Ytahakebcjjaikaa
/- THE CELL 'sum', in the pinned program and in every row, IS THE sha256 OF THE DUMP (.gsa) THAT YtahakebcjjaikaaProg.lean LOADS. Nothing in Lean hashes anything: it is a label: what it is worth is what the hold of that sum in a sandbox is worth. -/
noncomputable def Try.pinned : Pinned := { name := "ytahakebcjjaikaa", sum := "1c53582522fb6cd2bf1979962d717260bf5efb9615ac59f675e04ceaa471acce", checked := Try.checked }
namespace Rows
def none {H : Type} : Left H := { results := [], args := [] }

/-- 'hectarelaw16.CapsNarrow': WHATEVER THE INPUT: true; the input reads as it did. -/
def capsNarrowSpec : ChangeSpec := { name := "capsNarrow", fn := fun _ => fun
  | [d] => { results := [.lit (.bool true)], args := [d] }
  | _ => none }
def capsNarrowRow : OpenClaim := { program := "ytahakebcjjaikaa", sum := "1c53582522fb6cd2bf1979962d717260bf5efb9615ac59f675e04ceaa471acce", func := "hectare/hectarelaw16.CapsNarrow", spec := "capsNarrow", unfollowed := true, recurses := true, plainKeys := false, apart := false }
def CapsNarrowSaid : Prop := capsNarrowRow.holds Try.pinned (OpenSpec.ofChange capsNarrowSpec)

/-- ITS FALSE NEIGHBOUR: 'it returns false'. Refute it at one input. -/
def capsNarrowWrong : ChangeSpec := { name := "capsNarrow", fn := fun _ => fun
  | [d] => { results := [.lit (.bool false)], args := [d] }
  | _ => none }
def CapsNarrowWrongFalsely : Prop := capsNarrowRow.holds Try.pinned (OpenSpec.ofChange capsNarrowWrong)

/-- 'hectarelaw16.CapsRevoked': WHATEVER THE INPUT: true; the input reads as it did. -/
def capsRevokedSpec : ChangeSpec := { name := "capsRevoked", fn := fun _ => fun
  | [d1, d2, d3] => { results := [.lit (.bool true)], args := [d1, d2, d3] }
  | _ => none }
def capsRevokedRow : OpenClaim := { program := "ytahakebcjjaikaa", sum := "1c53582522fb6cd2bf1979962d717260bf5efb9615ac59f675e04ceaa471acce", func := "hectare/hectarelaw16.CapsRevoked", spec := "capsRevoked", unfollowed := true, recurses := true, plainKeys := false, apart := false }
def CapsRevokedSaid : Prop := capsRevokedRow.holds Try.pinned (OpenSpec.ofChange capsRevokedSpec)

/-- ITS FALSE NEIGHBOUR: 'it returns false'. Refute it at one input. -/
def capsRevokedWrong : ChangeSpec := { name := "capsRevoked", fn := fun _ => fun
  | [d1, d2, d3] => { results := [.lit (.bool false)], args := [d1, d2, d3] }
  | _ => none }
def CapsRevokedWrongFalsely : Prop := capsRevokedRow.holds Try.pinned (OpenSpec.ofChange capsRevokedWrong)

/-- 'hectarelaw16.CapsRights': WHATEVER THE INPUT: true; the input reads as it did. -/
def capsRightsSpec : ChangeSpec := { name := "capsRights", fn := fun _ => fun
  | [d1, d2, d3, d4] => { results := [.lit (.bool true)], args := [d1, d2, d3, d4] }
  | _ => none }
def capsRightsRow : OpenClaim := { program := "ytahakebcjjaikaa", sum := "1c53582522fb6cd2bf1979962d717260bf5efb9615ac59f675e04ceaa471acce", func := "hectare/hectarelaw16.CapsRights", spec := "capsRights", unfollowed := true, recurses := true, plainKeys := false, apart := false }
def CapsRightsSaid : Prop := capsRightsRow.holds Try.pinned (OpenSpec.ofChange capsRightsSpec)

/-- ITS FALSE NEIGHBOUR: 'it returns false'. Refute it at one input. -/
def capsRightsWrong : ChangeSpec := { name := "capsRights", fn := fun _ => fun
  | [d1, d2, d3, d4] => { results := [.lit (.bool false)], args := [d1, d2, d3, d4] }
  | _ => none }
def CapsRightsWrongFalsely : Prop := capsRightsRow.holds Try.pinned (OpenSpec.ofChange capsRightsWrong)

/-- 'hectarelaw16.CapsTokens': WHATEVER THE INPUT: true; the input reads as it did. -/
def capsTokensSpec : ChangeSpec := { name := "capsTokens", fn := fun _ => fun
  | [d1, d2, d3] => { results := [.lit (.bool true)], args := [d1, d2, d3] }
  | _ => none }
def capsTokensRow : OpenClaim := { program := "ytahakebcjjaikaa", sum := "1c53582522fb6cd2bf1979962d717260bf5efb9615ac59f675e04ceaa471acce", func := "hectare/hectarelaw16.CapsTokens", spec := "capsTokens", unfollowed := true, recurses := true, plainKeys := false, apart := false }
def CapsTokensSaid : Prop := capsTokensRow.holds Try.pinned (OpenSpec.ofChange capsTokensSpec)

/-- ITS FALSE NEIGHBOUR: 'it returns false'. Refute it at one input. -/
def capsTokensWrong : ChangeSpec := { name := "capsTokens", fn := fun _ => fun
  | [d1, d2, d3] => { results := [.lit (.bool false)], args := [d1, d2, d3] }
  | _ => none }
def CapsTokensWrongFalsely : Prop := capsTokensRow.holds Try.pinned (OpenSpec.ofChange capsTokensWrong)

/-- 'hectarelaw16.CapsTime': WHATEVER THE INPUT: true; the input reads as it did. -/
def capsTimeSpec : ChangeSpec := { name := "capsTime", fn := fun _ => fun
  | [d1, d2] => { results := [.lit (.bool true)], args := [d1, d2] }
  | _ => none }
def capsTimeRow : OpenClaim := { program := "ytahakebcjjaikaa", sum := "1c53582522fb6cd2bf1979962d717260bf5efb9615ac59f675e04ceaa471acce", func := "hectare/hectarelaw16.CapsTime", spec := "capsTime", unfollowed := true, recurses := true, plainKeys := false, apart := false }
def CapsTimeSaid : Prop := capsTimeRow.holds Try.pinned (OpenSpec.ofChange capsTimeSpec)

/-- ITS FALSE NEIGHBOUR: 'it returns false'. Refute it at one input. -/
def capsTimeWrong : ChangeSpec := { name := "capsTime", fn := fun _ => fun
  | [d1, d2] => { results := [.lit (.bool false)], args := [d1, d2] }
  | _ => none }
def CapsTimeWrongFalsely : Prop := capsTimeRow.holds Try.pinned (OpenSpec.ofChange capsTimeWrong)

/-- 'hectarelaw16.CapsUnder': WHATEVER THE INPUT: true; the input reads as it did. -/
def capsUnderSpec : ChangeSpec := { name := "capsUnder", fn := fun _ => fun
  | [d1, d2] => { results := [.lit (.bool true)], args := [d1, d2] }
  | _ => none }
def capsUnderRow : OpenClaim := { program := "ytahakebcjjaikaa", sum := "1c53582522fb6cd2bf1979962d717260bf5efb9615ac59f675e04ceaa471acce", func := "hectare/hectarelaw16.CapsUnder", spec := "capsUnder", unfollowed := true, recurses := true, plainKeys := false, apart := false }
def CapsUnderSaid : Prop := capsUnderRow.holds Try.pinned (OpenSpec.ofChange capsUnderSpec)

/-- ITS FALSE NEIGHBOUR: 'it returns false'. Refute it at one input. -/
def capsUnderWrong : ChangeSpec := { name := "capsUnder", fn := fun _ => fun
  | [d1, d2] => { results := [.lit (.bool false)], args := [d1, d2] }
  | _ => none }
def CapsUnderWrongFalsely : Prop := capsUnderRow.holds Try.pinned (OpenSpec.ofChange capsUnderWrong)

/-- 'hectarelaw16.CapsActs': WHATEVER THE INPUT: true; the input reads as it did. -/
def capsActsSpec : ChangeSpec := { name := "capsActs", fn := fun _ => fun
  | [d1, d2, d3, d4] => { results := [.lit (.bool true)], args := [d1, d2, d3, d4] }
  | _ => none }
def capsActsRow : OpenClaim := { program := "ytahakebcjjaikaa", sum := "1c53582522fb6cd2bf1979962d717260bf5efb9615ac59f675e04ceaa471acce", func := "hectare/hectarelaw16.CapsActs", spec := "capsActs", unfollowed := true, recurses := true, plainKeys := false, apart := false }
def CapsActsSaid : Prop := capsActsRow.holds Try.pinned (OpenSpec.ofChange capsActsSpec)

/-- ITS FALSE NEIGHBOUR: 'it returns false'. Refute it at one input. -/
def capsActsWrong : ChangeSpec := { name := "capsActs", fn := fun _ => fun
  | [d1, d2, d3, d4] => { results := [.lit (.bool false)], args := [d1, d2, d3, d4] }
  | _ => none }
def CapsActsWrongFalsely : Prop := capsActsRow.holds Try.pinned (OpenSpec.ofChange capsActsWrong)

/- THE SECOND FORM. 'bulk': how many values and letters a reading holds, each counted each time it is reached (what is shared counts as often as it is met; a slice's spare places count too). A statement '..UptoSaid' is the law's where the arguments, and the package variables that the reading takes, are together of bulk at most 1048576: NARROWER than '..Said'. Prove '..Said' where nothing that the law and all that it calls make is longer than what came in: it says more and counts as full. Else prove '..UptoSaid'. A law counts once. -/
mutual
def uptoBulk {H : Type} : DataW H → Nat
  | .lit (.string bytes) => bytes.length + 1
  | .lit _ => 1
  | .nil => 1
  | .ptr d => uptoBulk d + 1
  | .slice elems spare => uptoBulkAll elems + uptoBulkAll spare + 1
  | .agg parts => uptoBulkAll parts + 1
  | .iface _ d => uptoBulk d + 1
  | .map entries => uptoBulkEntries entries + 1
  | .held _ => 1
def uptoBulkAll {H : Type} : List (DataW H) → Nat
  | [] => 0
  | d :: r => uptoBulk d + uptoBulkAll r
def uptoBulkEntries {H : Type} : List (Lit × DataW H) → Nat
  | [] => 0
  | x :: r => uptoBulkEntry x + uptoBulkEntries r
def uptoBulkEntry {H : Type} : Lit × DataW H → Nat
  | (.string bytes, d) => bytes.length + uptoBulk d + 1
  | (_, d) => uptoBulk d + 1
 end
def uptoSmall : (H : Type) → List (DataW H) → Bool := fun _ ds => decide (uptoBulkAll ds ≤ 1048576)
def OpenSpec.upto (s : _root_.Go.ChangeSpec) : _root_.Go.OpenSpec := { _root_.Go.OpenSpec.ofChange s with cond := some uptoSmall }

/-- 'hectarelaw16.CapsNarrow', WHERE WHAT IT READS IS OF BULK AT MOST 1048576: true; the input reads as it did. -/
def capsNarrowUptoRow : OpenClaim := { program := "ytahakebcjjaikaa", sum := "1c53582522fb6cd2bf1979962d717260bf5efb9615ac59f675e04ceaa471acce", func := "hectare/hectarelaw16.CapsNarrow", spec := "capsNarrow", unfollowed := true, recurses := true, plainKeys := false, apart := false, narrowed := true }
def CapsNarrowUptoSaid : Prop := capsNarrowUptoRow.holds Try.pinned (OpenSpec.upto capsNarrowSpec)

/-- 'hectarelaw16.CapsRevoked', WHERE WHAT IT READS IS OF BULK AT MOST 1048576: true; the input reads as it did. -/
def capsRevokedUptoRow : OpenClaim := { program := "ytahakebcjjaikaa", sum := "1c53582522fb6cd2bf1979962d717260bf5efb9615ac59f675e04ceaa471acce", func := "hectare/hectarelaw16.CapsRevoked", spec := "capsRevoked", unfollowed := true, recurses := true, plainKeys := false, apart := false, narrowed := true }
def CapsRevokedUptoSaid : Prop := capsRevokedUptoRow.holds Try.pinned (OpenSpec.upto capsRevokedSpec)

/-- 'hectarelaw16.CapsRights', WHERE WHAT IT READS IS OF BULK AT MOST 1048576: true; the input reads as it did. -/
def capsRightsUptoRow : OpenClaim := { program := "ytahakebcjjaikaa", sum := "1c53582522fb6cd2bf1979962d717260bf5efb9615ac59f675e04ceaa471acce", func := "hectare/hectarelaw16.CapsRights", spec := "capsRights", unfollowed := true, recurses := true, plainKeys := false, apart := false, narrowed := true }
def CapsRightsUptoSaid : Prop := capsRightsUptoRow.holds Try.pinned (OpenSpec.upto capsRightsSpec)

/-- 'hectarelaw16.CapsTokens', WHERE WHAT IT READS IS OF BULK AT MOST 1048576: true; the input reads as it did. -/
def capsTokensUptoRow : OpenClaim := { program := "ytahakebcjjaikaa", sum := "1c53582522fb6cd2bf1979962d717260bf5efb9615ac59f675e04ceaa471acce", func := "hectare/hectarelaw16.CapsTokens", spec := "capsTokens", unfollowed := true, recurses := true, plainKeys := false, apart := false, narrowed := true }
def CapsTokensUptoSaid : Prop := capsTokensUptoRow.holds Try.pinned (OpenSpec.upto capsTokensSpec)

/-- 'hectarelaw16.CapsTime', WHERE WHAT IT READS IS OF BULK AT MOST 1048576: true; the input reads as it did. -/
def capsTimeUptoRow : OpenClaim := { program := "ytahakebcjjaikaa", sum := "1c53582522fb6cd2bf1979962d717260bf5efb9615ac59f675e04ceaa471acce", func := "hectare/hectarelaw16.CapsTime", spec := "capsTime", unfollowed := true, recurses := true, plainKeys := false, apart := false, narrowed := true }
def CapsTimeUptoSaid : Prop := capsTimeUptoRow.holds Try.pinned (OpenSpec.upto capsTimeSpec)

/-- 'hectarelaw16.CapsUnder', WHERE WHAT IT READS IS OF BULK AT MOST 1048576: true; the input reads as it did. -/
def capsUnderUptoRow : OpenClaim := { program := "ytahakebcjjaikaa", sum := "1c53582522fb6cd2bf1979962d717260bf5efb9615ac59f675e04ceaa471acce", func := "hectare/hectarelaw16.CapsUnder", spec := "capsUnder", unfollowed := true, recurses := true, plainKeys := false, apart := false, narrowed := true }
def CapsUnderUptoSaid : Prop := capsUnderUptoRow.holds Try.pinned (OpenSpec.upto capsUnderSpec)

/-- 'hectarelaw16.CapsActs', WHERE WHAT IT READS IS OF BULK AT MOST 1048576: true; the input reads as it did. -/
def capsActsUptoRow : OpenClaim := { program := "ytahakebcjjaikaa", sum := "1c53582522fb6cd2bf1979962d717260bf5efb9615ac59f675e04ceaa471acce", func := "hectare/hectarelaw16.CapsActs", spec := "capsActs", unfollowed := true, recurses := true, plainKeys := false, apart := false, narrowed := true }
def CapsActsUptoSaid : Prop := capsActsUptoRow.holds Try.pinned (OpenSpec.upto capsActsSpec)

end Rows
end Go.Proofs.Ytahakebcjjaikaa
