/- The row of MeshTells: for every input the law returns true, and its arguments read as before. Conditions: none. -/
import Derived.Test.YtdkbmefidmljjaaRows
import Derived.Test.YtdkbmefidmljjaaOpen
import Derived.Test.YtdkbmefidmljjaaTellsW
import Derived.WalkKit
import Derived.ProofKit
import Derived.OpenShut
import Derived.ShutString
import Derived.ChangeOld
import Derived.Below
import Derived.SizedLaws
namespace Go.Proofs.Ytdkbmefidmljjaa.meshTells
open Go.ChangeShapes Go.WideShapes Go.ChangeAt Go.RowKit
open Go.ChangeMaps (open_string shut_string)
set_option linter.unusedVariables false
theorem own : ownKnob Try.prog.godebug = none := by kernel_rfl
theorem laidOut : laidOutB Try.prog = true := by kernel_rfl
set_option maxRecDepth 100000 in
theorem lifted (os : Os) (started : os.Started) (H : Type) (enc : TypeId × Value → H) :
    ReturnsInHanded {} Try.checked os 3 .any (Rows.meshTellsSpec.pre6 enc Try.prog Try.f3 Rows.meshTellsRow.domain false) (Rows.meshTellsSpec.post enc Try.prog Try.f3 false true false false) := by
  refine returnsInHanded_of_change_sized (C := Try.checked) own started (by kernel_rfl) Try.func3
    (ChangeSpec.witness6 (enc := enc) (C := Try.checked) false ⟨#[], #[.slice none 0 0, .agg #[.int .i64 0, .int .i64 0, .int .i64 0, .int .i64 0, .int .i64 0, .int .i64 0], .agg #[.int .i64 0, .int .i64 0], .agg #[.int .i64 0, .int .i64 0]], []⟩ 8 (by kernel_rfl) (by kernel_rfl) (by kernel_rfl) (by kernel_rfl)) ?_
  intro W base args ds gs before hval0 hW hcnd hsz0 _
  have hval : ∀ (j : Nat) t v, Try.f3.params[j]? = some t → args[j]? = some v → Value.okWide Try.prog W .any base t v := hval0
  have hW' := hW
  obtain ⟨p, q, hA0, hV, rfl, hfz, hnd⟩ := hW
  have hA : DataW.TrodAll enc Try.prog W 0 (fun _ => true) true Try.f3.params.toList args.toList ds p := hA0
  rw [Try.params3] at hA hval
  obtain ⟨v0, vs0, d0, ds0, p0, q0, hargs, rfl, rfl, h0, r0⟩ := trodAll_cons hA
  obtain ⟨v1, vs1, d1, ds1, p1, q1, rfl, rfl, rfl, h1, r1⟩ := trodAll_cons r0
  obtain ⟨v2, vs2, d2, ds2, p2, q2, rfl, rfl, rfl, h2, r2⟩ := trodAll_cons r1
  obtain ⟨v3, vs3, d3, ds3, p3, q3, rfl, rfl, rfl, h3, r3⟩ := trodAll_cons r2
  obtain ⟨rfl, rfl, rfl⟩ := trodAll_nil r3
  obtain rfl : args = #[v0, v1, v2, v3] := by cases args; simp_all
  obtain ⟨rfl, rfl⟩ := trodVars_none hV
  have k0 := h0
  have lt0 : ∀ x ∈ p0, x.block < W.heap.size := by obtain ⟨m, hm⟩ := k0; exact DataW.trod_lt m _ _ _ hm
  obtain ⟨a0, len0, cap0, rfl⟩ := okWide_slice Try.underlying22 (hval 0 22 v0 rfl rfl)
  obtain ⟨z0, y0⟩ : ∃ zs, Flat.IsFlat 6 W a0 len0 cap0 zs := by
    obtain ⟨fuel, hf⟩ := h0
    have hcells : Try.prog.cellsOf 26 = 6 := by kernel_rfl
    obtain ⟨a', l', c', zs, hcs, hfl⟩ := Flat.open_rows (m := 8) Try.underlying22 (by kernel_rfl) (by rw [hcells]; decide) hf
    rw [hcells] at hfl
    simp [Value.cells] at hcs
    obtain ⟨rfl, rfl, rfl⟩ := hcs
    exact ⟨zs, hfl⟩
  have k1 := h1
  have lt1 : ∀ x ∈ p1, x.block < W.heap.size := by obtain ⟨m, hm⟩ := k1; exact DataW.trod_lt m _ _ _ hm
  obtain ⟨Z1, rfl, hl1, hw1⟩ := Flat.open_flat (m := 8) Try.underlying26 (by kernel_rfl) (hval 1 26 v1 rfl rfl) h1
  have hc1 : Try.prog.cellsOf 26 = 6 := by kernel_rfl
  rw [hc1] at hl1
  obtain ⟨s1_0, Z1_0, rfl, hl1_0⟩ := Flat.uncons hl1
  obtain ⟨s1_1, Z1_1, rfl, hl1_1⟩ := Flat.uncons hl1_0
  obtain ⟨s1_2, Z1_2, rfl, hl1_2⟩ := Flat.uncons hl1_1
  obtain ⟨s1_3, Z1_3, rfl, hl1_3⟩ := Flat.uncons hl1_2
  obtain ⟨s1_4, Z1_4, rfl, hl1_4⟩ := Flat.uncons hl1_3
  obtain ⟨s1_5, Z1_5, rfl, hl1_5⟩ := Flat.uncons hl1_4
  obtain rfl := Flat.unnil hl1_5
  have sw1_0 := hw1 s1_0 (by simp)
  have sw1_1 := hw1 s1_1 (by simp)
  have sw1_2 := hw1 s1_2 (by simp)
  have sw1_3 := hw1 s1_3 (by simp)
  have sw1_4 := hw1 s1_4 (by simp)
  have sw1_5 := hw1 s1_5 (by simp)
  have k2 := h2
  have lt2 : ∀ x ∈ p2, x.block < W.heap.size := by obtain ⟨m, hm⟩ := k2; exact DataW.trod_lt m _ _ _ hm
  obtain ⟨Z2, rfl, hl2, hw2⟩ := Flat.open_flat (m := 8) Try.underlying24 (by kernel_rfl) (hval 2 24 v2 rfl rfl) h2
  have hc2 : Try.prog.cellsOf 24 = 2 := by kernel_rfl
  rw [hc2] at hl2
  obtain ⟨s2_0, Z2_0, rfl, hl2_0⟩ := Flat.uncons hl2
  obtain ⟨s2_1, Z2_1, rfl, hl2_1⟩ := Flat.uncons hl2_0
  obtain rfl := Flat.unnil hl2_1
  have sw2_0 := hw2 s2_0 (by simp)
  have sw2_1 := hw2 s2_1 (by simp)
  have k3 := h3
  have lt3 : ∀ x ∈ p3, x.block < W.heap.size := by obtain ⟨m, hm⟩ := k3; exact DataW.trod_lt m _ _ _ hm
  obtain ⟨Z3, rfl, hl3, hw3⟩ := Flat.open_flat (m := 8) Try.underlying24 (by kernel_rfl) (hval 3 24 v3 rfl rfl) h3
  have hc3 : Try.prog.cellsOf 24 = 2 := by kernel_rfl
  rw [hc3] at hl3
  obtain ⟨s3_0, Z3_0, rfl, hl3_0⟩ := Flat.uncons hl3
  obtain ⟨s3_1, Z3_1, rfl, hl3_1⟩ := Flat.uncons hl3_0
  obtain rfl := Flat.unnil hl3_1
  have sw3_0 := hw3 s3_0 (by simp)
  have sw3_1 := hw3 s3_1 (by simp)
  clear hA0 hval0 hsz0
  refine (meshTells_w W a0 len0 cap0 z0 y0 s1_0 s1_1 s1_2 s1_3 s1_4 s1_5 s2_0 s2_1 s3_0 s3_1).mono fun e W' ⟨he, bel⟩ => ?_
  subst he
  exact ⟨_, rfl, _, _, _, [], _, [], hW', trodAll_mk1 (shut_bool Try.underlying4 _), (trodAll_cons_mk (Below.trod laidOut (by kernel_rfl) (of_decide_eq_true (by kernel_rfl)) k0 bel lt0) (trodAll_cons_mk (Below.trod laidOut (by kernel_rfl) (of_decide_eq_true (by kernel_rfl)) k1 bel lt1) (trodAll_cons_mk (Below.trod laidOut (by kernel_rfl) (of_decide_eq_true (by kernel_rfl)) k2 bel lt2) (trodAll_cons_mk (Below.trod laidOut (by kernel_rfl) (of_decide_eq_true (by kernel_rfl)) k3 bel lt3) trodAll_mk0)))), rfl, bel.frame _, fun h => by cases h⟩
theorem over : Rows.meshTellsRow.holds Try.pinned (OpenSpec.ofChange Rows.meshTellsSpec) :=
  OpenClaim.holds_of_wide 3 Try.f3 rfl rfl rfl rfl rfl rfl rfl ⟨rfl, rfl, rfl, rfl, rfl⟩ rfl rfl rfl rfl rfl (by kernel_rfl) Try.func3 (by kernel_rfl)
    (of_decide_eq_true (by kernel_rfl)) (by unfold Func.isWrapper; first | (rw [if_pos (by decide +kernel)]; kernel_rfl) | (rw [if_neg (by decide +kernel)]; exact ⟨rfl, rfl⟩))
    (fun os started H enc _ => lifted os started H enc)
theorem proved : Rows.MeshTellsSaid := over
#print axioms proved
end Go.Proofs.Ytdkbmefidmljjaa.meshTells
namespace Go.Proofs.Ytdkbmefidmljjaa
/-- The statement. -/
theorem meshTells_holds : Rows.MeshTellsSaid := meshTells.proved
end Go.Proofs.Ytdkbmefidmljjaa
