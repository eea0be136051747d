/- The row of RightsTell: for every input the law returns true, and its arguments read as before. Conditions: none. -/
import Derived.Test.YtniafibckoiakaaRows
import Derived.Test.YtniafibckoiakaaOpen
import Derived.Test.YtniafibckoiakaaTell
import Derived.WalkKit
import Derived.ProofKit
import Derived.OpenShut
import Derived.ShutString
import Derived.ChangeOld
import Derived.Below
import Derived.SizedLaws
namespace Go.Proofs.Ytniafibckoiakaa.rightsTell
open Go.ChangeShapes Go.WideShapes Go.ChangeAt Go.RowKit
open Go.ChangeMaps (open_string shut_string)
set_option linter.unusedVariables false
theorem own : ownKnob Try.prog.godebug = none := by kernel_rfl
theorem laidOut : laidOutB Try.prog = true := by kernel_rfl
set_option maxRecDepth 100000 in
theorem lifted (os : Os) (started : os.Started) (H : Type) (enc : TypeId × Value → H) :
    ReturnsInHanded {} Try.checked os 3 .any (Rows.rightsTellSpec.pre6 enc Try.prog Try.f3 Rows.rightsTellRow.domain false) (Rows.rightsTellSpec.post enc Try.prog Try.f3 false true false false) := by
  refine returnsInHanded_of_change_sized (C := Try.checked) own started (by kernel_rfl) Try.func3
    (ChangeSpec.witness6 (enc := enc) (C := Try.checked) false ⟨#[], #[.int .i64 0, .int .i64 0, .int .i64 0, .agg #[.int .i64 0, .int .i64 0, .int .i64 0, .int .i64 0, .int .i64 0, .int .i64 0, .int .i64 0, .int .i64 0, .int .i64 0], .agg #[.int .i64 0, .int .i64 0, .int .i64 0, .int .i64 0, .int .i64 0, .int .i64 0, .int .i64 0, .int .i64 0, .int .i64 0]], []⟩ 8 (by kernel_rfl) (by kernel_rfl) (by kernel_rfl) (by kernel_rfl)) ?_
  intro W base args ds gs before hval0 hW hcnd hsz0 _
  have hval : ∀ (j : Nat) t v, Try.f3.params[j]? = some t → args[j]? = some v → Value.okWide Try.prog W .any base t v := hval0
  have hW' := hW
  obtain ⟨p, q, hA0, hV, rfl, hfz, hnd⟩ := hW
  have hA : DataW.TrodAll enc Try.prog W 0 (fun _ => true) true Try.f3.params.toList args.toList ds p := hA0
  rw [Try.params3] at hA hval
  obtain ⟨v0, vs0, d0, ds0, p0, q0, hargs, rfl, rfl, h0, r0⟩ := trodAll_cons hA
  obtain ⟨v1, vs1, d1, ds1, p1, q1, rfl, rfl, rfl, h1, r1⟩ := trodAll_cons r0
  obtain ⟨v2, vs2, d2, ds2, p2, q2, rfl, rfl, rfl, h2, r2⟩ := trodAll_cons r1
  obtain ⟨v3, vs3, d3, ds3, p3, q3, rfl, rfl, rfl, h3, r3⟩ := trodAll_cons r2
  obtain ⟨v4, vs4, d4, ds4, p4, q4, rfl, rfl, rfl, h4, r4⟩ := trodAll_cons r3
  obtain ⟨rfl, rfl, rfl⟩ := trodAll_nil r4
  obtain rfl : args = #[v0, v1, v2, v3, v4] := by cases args; simp_all
  obtain ⟨rfl, rfl⟩ := trodVars_none hV
  obtain ⟨a0, rfl, rfl, rfl, w0⟩ := open_int Try.underlying3 (hval 0 3 v0 rfl rfl) h0
  obtain ⟨a1, rfl, rfl, rfl, w1⟩ := open_int Try.underlying3 (hval 1 3 v1 rfl rfl) h1
  obtain ⟨a2, rfl, rfl, rfl, w2⟩ := open_int Try.underlying3 (hval 2 3 v2 rfl rfl) h2
  have k3 := h3
  have lt3 : ∀ x ∈ p3, x.block < W.heap.size := by obtain ⟨m, hm⟩ := k3; exact DataW.trod_lt m _ _ _ hm
  obtain ⟨Z3, rfl, hl3, hw3⟩ := Flat.open_flat (m := 8) Try.underlying23 (by kernel_rfl) (hval 3 23 v3 rfl rfl) h3
  have hc3 : Try.prog.cellsOf 23 = 9 := by kernel_rfl
  rw [hc3] at hl3
  obtain ⟨s3_0, Z3_0, rfl, hl3_0⟩ := Flat.uncons hl3
  obtain ⟨s3_1, Z3_1, rfl, hl3_1⟩ := Flat.uncons hl3_0
  obtain ⟨s3_2, Z3_2, rfl, hl3_2⟩ := Flat.uncons hl3_1
  obtain ⟨s3_3, Z3_3, rfl, hl3_3⟩ := Flat.uncons hl3_2
  obtain ⟨s3_4, Z3_4, rfl, hl3_4⟩ := Flat.uncons hl3_3
  obtain ⟨s3_5, Z3_5, rfl, hl3_5⟩ := Flat.uncons hl3_4
  obtain ⟨s3_6, Z3_6, rfl, hl3_6⟩ := Flat.uncons hl3_5
  obtain ⟨s3_7, Z3_7, rfl, hl3_7⟩ := Flat.uncons hl3_6
  obtain ⟨s3_8, Z3_8, rfl, hl3_8⟩ := Flat.uncons hl3_7
  obtain rfl := Flat.unnil hl3_8
  have sw3_0 := hw3 s3_0 (by simp)
  have sw3_1 := hw3 s3_1 (by simp)
  have sw3_2 := hw3 s3_2 (by simp)
  have sw3_3 := hw3 s3_3 (by simp)
  have sw3_4 := hw3 s3_4 (by simp)
  have sw3_5 := hw3 s3_5 (by simp)
  have sw3_6 := hw3 s3_6 (by simp)
  have sw3_7 := hw3 s3_7 (by simp)
  have sw3_8 := hw3 s3_8 (by simp)
  have k4 := h4
  have lt4 : ∀ x ∈ p4, x.block < W.heap.size := by obtain ⟨m, hm⟩ := k4; exact DataW.trod_lt m _ _ _ hm
  obtain ⟨Z4, rfl, hl4, hw4⟩ := Flat.open_flat (m := 8) Try.underlying23 (by kernel_rfl) (hval 4 23 v4 rfl rfl) h4
  have hc4 : Try.prog.cellsOf 23 = 9 := by kernel_rfl
  rw [hc4] at hl4
  obtain ⟨s4_0, Z4_0, rfl, hl4_0⟩ := Flat.uncons hl4
  obtain ⟨s4_1, Z4_1, rfl, hl4_1⟩ := Flat.uncons hl4_0
  obtain ⟨s4_2, Z4_2, rfl, hl4_2⟩ := Flat.uncons hl4_1
  obtain ⟨s4_3, Z4_3, rfl, hl4_3⟩ := Flat.uncons hl4_2
  obtain ⟨s4_4, Z4_4, rfl, hl4_4⟩ := Flat.uncons hl4_3
  obtain ⟨s4_5, Z4_5, rfl, hl4_5⟩ := Flat.uncons hl4_4
  obtain ⟨s4_6, Z4_6, rfl, hl4_6⟩ := Flat.uncons hl4_5
  obtain ⟨s4_7, Z4_7, rfl, hl4_7⟩ := Flat.uncons hl4_6
  obtain ⟨s4_8, Z4_8, rfl, hl4_8⟩ := Flat.uncons hl4_7
  obtain rfl := Flat.unnil hl4_8
  have sw4_0 := hw4 s4_0 (by simp)
  have sw4_1 := hw4 s4_1 (by simp)
  have sw4_2 := hw4 s4_2 (by simp)
  have sw4_3 := hw4 s4_3 (by simp)
  have sw4_4 := hw4 s4_4 (by simp)
  have sw4_5 := hw4 s4_5 (by simp)
  have sw4_6 := hw4 s4_6 (by simp)
  have sw4_7 := hw4 s4_7 (by simp)
  have sw4_8 := hw4 s4_8 (by simp)
  clear hA0 hval0 hsz0
  refine (tell_c a0 a1 a2 ⟨s3_0, s3_1, s3_2, s3_3, s3_4, s3_5, s3_6, s3_7, s3_8⟩ ⟨s4_0, s4_1, s4_2, s4_3, s4_4, s4_5, s4_6, s4_7, s4_8⟩ W).mono fun e W' ⟨he, bel⟩ => ?_
  subst he
  exact ⟨_, rfl, _, _, _, [], _, [], hW', trodAll_mk1 (shut_bool Try.underlying4 _), (trodAll_cons_mk (shut_int Try.underlying3 w0) (trodAll_cons_mk (shut_int Try.underlying3 w1) (trodAll_cons_mk (shut_int Try.underlying3 w2) (trodAll_cons_mk (Below.trod laidOut (by kernel_rfl) (of_decide_eq_true (by kernel_rfl)) k3 bel lt3) (trodAll_cons_mk (Below.trod laidOut (by kernel_rfl) (of_decide_eq_true (by kernel_rfl)) k4 bel lt4) trodAll_mk0))))), rfl, bel.frame _, fun h => by cases h⟩
theorem over : Rows.rightsTellRow.holds Try.pinned (OpenSpec.ofChange Rows.rightsTellSpec) :=
  OpenClaim.holds_of_wide 3 Try.f3 rfl rfl rfl rfl rfl rfl rfl ⟨rfl, rfl, rfl, rfl, rfl⟩ rfl rfl rfl rfl rfl (by kernel_rfl) Try.func3 (by kernel_rfl)
    (of_decide_eq_true (by kernel_rfl)) (by unfold Func.isWrapper; first | (rw [if_pos (by decide +kernel)]; kernel_rfl) | (rw [if_neg (by decide +kernel)]; exact ⟨rfl, rfl⟩))
    (fun os started H enc _ => lifted os started H enc)
theorem proved : Rows.RightsTellSaid := over
#print axioms proved
end Go.Proofs.Ytniafibckoiakaa.rightsTell
namespace Go.Proofs.Ytniafibckoiakaa
/-- The statement. -/
theorem rightsTell_holds : Rows.RightsTellSaid := rightsTell.proved
end Go.Proofs.Ytniafibckoiakaa
