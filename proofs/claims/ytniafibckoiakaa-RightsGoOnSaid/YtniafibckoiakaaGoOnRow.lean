/- The row of RightsGoOn: for every input the law returns true, and its arguments read as before. Conditions: none. -/
import Derived.Test.YtniafibckoiakaaRows
import Derived.Test.YtniafibckoiakaaOpen
import Derived.Test.YtniafibckoiakaaGoOn
import Derived.WalkKit
import Derived.ProofKit
import Derived.OpenShut
import Derived.ShutString
import Derived.ChangeOld
import Derived.Below
import Derived.SizedLaws
namespace Go.Proofs.Ytniafibckoiakaa.rightsGoOn
open Go.ChangeShapes Go.WideShapes Go.ChangeAt Go.RowKit
open Go.ChangeMaps (open_string shut_string)
set_option linter.unusedVariables false
theorem own : ownKnob Try.prog.godebug = none := by kernel_rfl
theorem laidOut : laidOutB Try.prog = true := by kernel_rfl
set_option maxRecDepth 100000 in
theorem lifted (os : Os) (started : os.Started) (H : Type) (enc : TypeId × Value → H) :
    ReturnsInHanded {} Try.checked os 4 .any (Rows.rightsGoOnSpec.pre6 enc Try.prog Try.f4 Rows.rightsGoOnRow.domain false) (Rows.rightsGoOnSpec.post enc Try.prog Try.f4 false true false false) := by
  refine returnsInHanded_of_change_sized (C := Try.checked) own started (by kernel_rfl) Try.func4
    (ChangeSpec.witness6 (enc := enc) (C := Try.checked) false ⟨#[], #[.agg #[.int .i64 0, .int .i64 0, .int .i64 0, .int .i64 0, .int .i64 0, .int .i64 0, .int .i64 0, .int .i64 0, .int .i64 0], .agg #[.int .i64 0, .int .i64 0, .int .i64 0, .int .i64 0, .int .i64 0, .int .i64 0, .int .i64 0, .int .i64 0, .int .i64 0], .agg #[.int .i64 0, .int .i64 0, .int .i64 0, .int .i64 0, .int .i64 0, .int .i64 0, .int .i64 0, .int .i64 0, .int .i64 0]], []⟩ 8 (by kernel_rfl) (by kernel_rfl) (by kernel_rfl) (by kernel_rfl)) ?_
  intro W base args ds gs before hval0 hW hcnd hsz0 _
  have hval : ∀ (j : Nat) t v, Try.f4.params[j]? = some t → args[j]? = some v → Value.okWide Try.prog W .any base t v := hval0
  have hW' := hW
  obtain ⟨p, q, hA0, hV, rfl, hfz, hnd⟩ := hW
  have hA : DataW.TrodAll enc Try.prog W 0 (fun _ => true) true Try.f4.params.toList args.toList ds p := hA0
  rw [Try.params4] at hA hval
  obtain ⟨v0, vs0, d0, ds0, p0, q0, hargs, rfl, rfl, h0, r0⟩ := trodAll_cons hA
  obtain ⟨v1, vs1, d1, ds1, p1, q1, rfl, rfl, rfl, h1, r1⟩ := trodAll_cons r0
  obtain ⟨v2, vs2, d2, ds2, p2, q2, rfl, rfl, rfl, h2, r2⟩ := trodAll_cons r1
  obtain ⟨rfl, rfl, rfl⟩ := trodAll_nil r2
  obtain rfl : args = #[v0, v1, v2] := by cases args; simp_all
  obtain ⟨rfl, rfl⟩ := trodVars_none hV
  have k0 := h0
  have lt0 : ∀ x ∈ p0, x.block < W.heap.size := by obtain ⟨m, hm⟩ := k0; exact DataW.trod_lt m _ _ _ hm
  obtain ⟨Z0, rfl, hl0, hw0⟩ := Flat.open_flat (m := 8) Try.underlying23 (by kernel_rfl) (hval 0 23 v0 rfl rfl) h0
  have hc0 : Try.prog.cellsOf 23 = 9 := by kernel_rfl
  rw [hc0] at hl0
  obtain ⟨s0_0, Z0_0, rfl, hl0_0⟩ := Flat.uncons hl0
  obtain ⟨s0_1, Z0_1, rfl, hl0_1⟩ := Flat.uncons hl0_0
  obtain ⟨s0_2, Z0_2, rfl, hl0_2⟩ := Flat.uncons hl0_1
  obtain ⟨s0_3, Z0_3, rfl, hl0_3⟩ := Flat.uncons hl0_2
  obtain ⟨s0_4, Z0_4, rfl, hl0_4⟩ := Flat.uncons hl0_3
  obtain ⟨s0_5, Z0_5, rfl, hl0_5⟩ := Flat.uncons hl0_4
  obtain ⟨s0_6, Z0_6, rfl, hl0_6⟩ := Flat.uncons hl0_5
  obtain ⟨s0_7, Z0_7, rfl, hl0_7⟩ := Flat.uncons hl0_6
  obtain ⟨s0_8, Z0_8, rfl, hl0_8⟩ := Flat.uncons hl0_7
  obtain rfl := Flat.unnil hl0_8
  have sw0_0 := hw0 s0_0 (by simp)
  have sw0_1 := hw0 s0_1 (by simp)
  have sw0_2 := hw0 s0_2 (by simp)
  have sw0_3 := hw0 s0_3 (by simp)
  have sw0_4 := hw0 s0_4 (by simp)
  have sw0_5 := hw0 s0_5 (by simp)
  have sw0_6 := hw0 s0_6 (by simp)
  have sw0_7 := hw0 s0_7 (by simp)
  have sw0_8 := hw0 s0_8 (by simp)
  have k1 := h1
  have lt1 : ∀ x ∈ p1, x.block < W.heap.size := by obtain ⟨m, hm⟩ := k1; exact DataW.trod_lt m _ _ _ hm
  obtain ⟨Z1, rfl, hl1, hw1⟩ := Flat.open_flat (m := 8) Try.underlying23 (by kernel_rfl) (hval 1 23 v1 rfl rfl) h1
  have hc1 : Try.prog.cellsOf 23 = 9 := by kernel_rfl
  rw [hc1] at hl1
  obtain ⟨s1_0, Z1_0, rfl, hl1_0⟩ := Flat.uncons hl1
  obtain ⟨s1_1, Z1_1, rfl, hl1_1⟩ := Flat.uncons hl1_0
  obtain ⟨s1_2, Z1_2, rfl, hl1_2⟩ := Flat.uncons hl1_1
  obtain ⟨s1_3, Z1_3, rfl, hl1_3⟩ := Flat.uncons hl1_2
  obtain ⟨s1_4, Z1_4, rfl, hl1_4⟩ := Flat.uncons hl1_3
  obtain ⟨s1_5, Z1_5, rfl, hl1_5⟩ := Flat.uncons hl1_4
  obtain ⟨s1_6, Z1_6, rfl, hl1_6⟩ := Flat.uncons hl1_5
  obtain ⟨s1_7, Z1_7, rfl, hl1_7⟩ := Flat.uncons hl1_6
  obtain ⟨s1_8, Z1_8, rfl, hl1_8⟩ := Flat.uncons hl1_7
  obtain rfl := Flat.unnil hl1_8
  have sw1_0 := hw1 s1_0 (by simp)
  have sw1_1 := hw1 s1_1 (by simp)
  have sw1_2 := hw1 s1_2 (by simp)
  have sw1_3 := hw1 s1_3 (by simp)
  have sw1_4 := hw1 s1_4 (by simp)
  have sw1_5 := hw1 s1_5 (by simp)
  have sw1_6 := hw1 s1_6 (by simp)
  have sw1_7 := hw1 s1_7 (by simp)
  have sw1_8 := hw1 s1_8 (by simp)
  have k2 := h2
  have lt2 : ∀ x ∈ p2, x.block < W.heap.size := by obtain ⟨m, hm⟩ := k2; exact DataW.trod_lt m _ _ _ hm
  obtain ⟨Z2, rfl, hl2, hw2⟩ := Flat.open_flat (m := 8) Try.underlying23 (by kernel_rfl) (hval 2 23 v2 rfl rfl) h2
  have hc2 : Try.prog.cellsOf 23 = 9 := by kernel_rfl
  rw [hc2] at hl2
  obtain ⟨s2_0, Z2_0, rfl, hl2_0⟩ := Flat.uncons hl2
  obtain ⟨s2_1, Z2_1, rfl, hl2_1⟩ := Flat.uncons hl2_0
  obtain ⟨s2_2, Z2_2, rfl, hl2_2⟩ := Flat.uncons hl2_1
  obtain ⟨s2_3, Z2_3, rfl, hl2_3⟩ := Flat.uncons hl2_2
  obtain ⟨s2_4, Z2_4, rfl, hl2_4⟩ := Flat.uncons hl2_3
  obtain ⟨s2_5, Z2_5, rfl, hl2_5⟩ := Flat.uncons hl2_4
  obtain ⟨s2_6, Z2_6, rfl, hl2_6⟩ := Flat.uncons hl2_5
  obtain ⟨s2_7, Z2_7, rfl, hl2_7⟩ := Flat.uncons hl2_6
  obtain ⟨s2_8, Z2_8, rfl, hl2_8⟩ := Flat.uncons hl2_7
  obtain rfl := Flat.unnil hl2_8
  have sw2_0 := hw2 s2_0 (by simp)
  have sw2_1 := hw2 s2_1 (by simp)
  have sw2_2 := hw2 s2_2 (by simp)
  have sw2_3 := hw2 s2_3 (by simp)
  have sw2_4 := hw2 s2_4 (by simp)
  have sw2_5 := hw2 s2_5 (by simp)
  have sw2_6 := hw2 s2_6 (by simp)
  have sw2_7 := hw2 s2_7 (by simp)
  have sw2_8 := hw2 s2_8 (by simp)
  clear hA0 hval0 hsz0
  refine (goOn_c s0_0 s0_1 s0_2 s0_3 s0_4 s0_5 s0_6 s0_7 s0_8 s1_0 s1_1 s1_2 s1_3 s1_4 s1_5 s1_6 s1_7 s1_8 s2_0 s2_1 s2_2 s2_3 s2_4 s2_5 s2_6 s2_7 s2_8  W).mono fun e W' ⟨he, bel⟩ => ?_
  subst he
  exact ⟨_, rfl, _, _, _, [], _, [], hW', trodAll_mk1 (shut_bool Try.underlying4 _), (trodAll_cons_mk (Below.trod laidOut (by kernel_rfl) (of_decide_eq_true (by kernel_rfl)) k0 bel lt0) (trodAll_cons_mk (Below.trod laidOut (by kernel_rfl) (of_decide_eq_true (by kernel_rfl)) k1 bel lt1) (trodAll_cons_mk (Below.trod laidOut (by kernel_rfl) (of_decide_eq_true (by kernel_rfl)) k2 bel lt2) trodAll_mk0))), rfl, bel.frame _, fun h => by cases h⟩
theorem over : Rows.rightsGoOnRow.holds Try.pinned (OpenSpec.ofChange Rows.rightsGoOnSpec) :=
  OpenClaim.holds_of_wide 4 Try.f4 rfl rfl rfl rfl rfl rfl rfl ⟨rfl, rfl, rfl, rfl, rfl⟩ rfl rfl rfl rfl rfl (by kernel_rfl) Try.func4 (by kernel_rfl)
    (of_decide_eq_true (by kernel_rfl)) (by unfold Func.isWrapper; first | (rw [if_pos (by decide +kernel)]; kernel_rfl) | (rw [if_neg (by decide +kernel)]; exact ⟨rfl, rfl⟩))
    (fun os started H enc _ => lifted os started H enc)
theorem proved : Rows.RightsGoOnSaid := over
#print axioms proved
end Go.Proofs.Ytniafibckoiakaa.rightsGoOn
namespace Go.Proofs.Ytniafibckoiakaa
/-- The statement. -/
theorem rightsGoOn_holds : Rows.RightsGoOnSaid := rightsGoOn.proved
end Go.Proofs.Ytniafibckoiakaa
