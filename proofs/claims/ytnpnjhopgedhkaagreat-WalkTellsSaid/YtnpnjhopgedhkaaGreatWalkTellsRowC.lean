/- The row of WalkTells: for every input the law returns true, and its arguments read as before. Conditions: none. -/
import Derived.Test.YtnpnjhopgedhkaaGreatRows
import Derived.Test.YtnpnjhopgedhkaaGreatFD1
import Derived.Test.YtnpnjhopgedhkaaGreatFD10
import Derived.WalkKit
import Derived.ProofKit
import Derived.OpenShut
import Derived.ShutString
import Derived.ChangeOld
import Derived.Below
import Derived.SizedLaws
namespace Go.Proofs.YtnpnjhopgedhkaaGreat.walkTells
open Go.ChangeShapes Go.WideShapes Go.ChangeAt Go.RowKit
open Go.ChangeMaps (open_string shut_string)
set_option linter.unusedVariables false
theorem own : ownKnob Tryz.prog.godebug = none := by kernel_rfl
theorem laidOut : laidOutB Tryz.prog = true := by kernel_rfl
set_option maxRecDepth 100000 in
theorem lifted (os : Os) (started : os.Started) (H : Type) (enc : TypeId × Value → H) :
    ReturnsInHanded {} Tryz.checked os 3 .any (Rows.walkTellsSpec.pre6 enc Tryz.prog Tryz.f3 Rows.walkTellsRow.domain false) (Rows.walkTellsSpec.post enc Tryz.prog Tryz.f3 false true false false) := by
  refine returnsInHanded_of_change_sized (C := Tryz.checked) own started (by kernel_rfl) Tryz.func3
    (ChangeSpec.witness6 (enc := enc) (C := Tryz.checked) false ⟨#[], #[.int .i64 0, .slice none 0 0, .slice none 0 0, .agg #[.int .i64 0, .int .i64 0], .agg #[.int .i64 0, .int .i64 0]], []⟩ 8 (by kernel_rfl) (by kernel_rfl) (by kernel_rfl) (by kernel_rfl)) ?_
  intro W base args ds gs before hval0 hW hcnd hsz0 _
  have hval : ∀ (j : Nat) t v, Tryz.f3.params[j]? = some t → args[j]? = some v → Value.okWide Tryz.prog W .any base t v := hval0
  have hW' := hW
  obtain ⟨p, q, hA0, hV, rfl, hfz, hnd⟩ := hW
  have hA : DataW.TrodAll enc Tryz.prog W 0 (fun _ => true) true Tryz.f3.params.toList args.toList ds p := hA0
  rw [Tryz.params3] at hA hval
  obtain ⟨v0, vs0, d0, ds0, p0, q0, hargs, rfl, rfl, h0, r0⟩ := trodAll_cons hA
  obtain ⟨v1, vs1, d1, ds1, p1, q1, rfl, rfl, rfl, h1, r1⟩ := trodAll_cons r0
  obtain ⟨v2, vs2, d2, ds2, p2, q2, rfl, rfl, rfl, h2, r2⟩ := trodAll_cons r1
  obtain ⟨v3, vs3, d3, ds3, p3, q3, rfl, rfl, rfl, h3, r3⟩ := trodAll_cons r2
  obtain ⟨v4, vs4, d4, ds4, p4, q4, rfl, rfl, rfl, h4, r4⟩ := trodAll_cons r3
  obtain ⟨rfl, rfl, rfl⟩ := trodAll_nil r4
  obtain rfl : args = #[v0, v1, v2, v3, v4] := by cases args; simp_all
  obtain ⟨rfl, rfl⟩ := trodVars_none hV
  obtain ⟨a0, rfl, rfl, rfl, w0⟩ := open_int Tryz.underlying3 (hval 0 3 v0 rfl rfl) h0
  have k1 := h1
  have lt1 : ∀ x ∈ p1, x.block < W.heap.size := by obtain ⟨m, hm⟩ := k1; exact DataW.trod_lt m _ _ _ hm
  obtain ⟨a1, len1, cap1, rfl⟩ := okWide_slice Tryz.underlying22 (hval 1 22 v1 rfl rfl)
  obtain ⟨z1, y1⟩ : ∃ zs, Flat.IsFlat 1 W a1 len1 cap1 zs := by
    obtain ⟨fuel, hf⟩ := h1
    have hcells : Tryz.prog.cellsOf 3 = 1 := by kernel_rfl
    obtain ⟨a', l', c', zs, hcs, hfl⟩ := Flat.open_rows (m := 8) Tryz.underlying22 (by kernel_rfl) (by rw [hcells]; decide) hf
    rw [hcells] at hfl
    simp [Value.cells] at hcs
    obtain ⟨rfl, rfl, rfl⟩ := hcs
    exact ⟨zs, hfl⟩
  have k2 := h2
  have lt2 : ∀ x ∈ p2, x.block < W.heap.size := by obtain ⟨m, hm⟩ := k2; exact DataW.trod_lt m _ _ _ hm
  obtain ⟨a2, len2, cap2, rfl⟩ := okWide_slice Tryz.underlying23 (hval 2 23 v2 rfl rfl)
  obtain ⟨z2, y2⟩ : ∃ zs, Flat.IsFlat 2 W a2 len2 cap2 zs := by
    obtain ⟨fuel, hf⟩ := h2
    have hcells : Tryz.prog.cellsOf 63 = 2 := by kernel_rfl
    obtain ⟨a', l', c', zs, hcs, hfl⟩ := Flat.open_rows (m := 8) Tryz.underlying23 (by kernel_rfl) (by rw [hcells]; decide) hf
    rw [hcells] at hfl
    simp [Value.cells] at hcs
    obtain ⟨rfl, rfl, rfl⟩ := hcs
    exact ⟨zs, hfl⟩
  have k3 := h3
  have lt3 : ∀ x ∈ p3, x.block < W.heap.size := by obtain ⟨m, hm⟩ := k3; exact DataW.trod_lt m _ _ _ hm
  obtain ⟨Z3, rfl, hl3, hw3⟩ := Flat.open_flat (m := 8) Tryz.underlying25 (by kernel_rfl) (hval 3 25 v3 rfl rfl) h3
  have hc3 : Tryz.prog.cellsOf 25 = 2 := by kernel_rfl
  rw [hc3] at hl3
  obtain ⟨s3_0, Z3_0, rfl, hl3_0⟩ := Flat.uncons hl3
  obtain ⟨s3_1, Z3_1, rfl, hl3_1⟩ := Flat.uncons hl3_0
  obtain rfl := Flat.unnil hl3_1
  have sw3_0 := hw3 s3_0 (by simp)
  have sw3_1 := hw3 s3_1 (by simp)
  have k4 := h4
  have lt4 : ∀ x ∈ p4, x.block < W.heap.size := by obtain ⟨m, hm⟩ := k4; exact DataW.trod_lt m _ _ _ hm
  obtain ⟨Z4, rfl, hl4, hw4⟩ := Flat.open_flat (m := 8) Tryz.underlying25 (by kernel_rfl) (hval 4 25 v4 rfl rfl) h4
  have hc4 : Tryz.prog.cellsOf 25 = 2 := by kernel_rfl
  rw [hc4] at hl4
  obtain ⟨s4_0, Z4_0, rfl, hl4_0⟩ := Flat.uncons hl4
  obtain ⟨s4_1, Z4_1, rfl, hl4_1⟩ := Flat.uncons hl4_0
  obtain rfl := Flat.unnil hl4_1
  have sw4_0 := hw4 s4_0 (by simp)
  have sw4_1 := hw4 s4_1 (by simp)
  clear hA0 hval0 hsz0
  refine (walkTells_w W a0 a1 len1 cap1 z1 y1 a2 len2 cap2 z2 y2 s3_0 s3_1 s4_0 s4_1).mono fun e W' ⟨he, bel⟩ => ?_
  subst he
  exact ⟨_, rfl, _, _, _, [], _, [], hW', trodAll_mk1 (shut_bool Tryz.underlying4 _), (trodAll_cons_mk (shut_int Tryz.underlying3 w0) (trodAll_cons_mk (Below.trod laidOut (by kernel_rfl) (of_decide_eq_true (by kernel_rfl)) k1 bel lt1) (trodAll_cons_mk (Below.trod laidOut (by kernel_rfl) (of_decide_eq_true (by kernel_rfl)) k2 bel lt2) (trodAll_cons_mk (Below.trod laidOut (by kernel_rfl) (of_decide_eq_true (by kernel_rfl)) k3 bel lt3) (trodAll_cons_mk (Below.trod laidOut (by kernel_rfl) (of_decide_eq_true (by kernel_rfl)) k4 bel lt4) trodAll_mk0))))), rfl, bel.frame _, fun h => by cases h⟩
theorem over : Rows.walkTellsRow.holds Tryz.pinned (OpenSpec.ofChange Rows.walkTellsSpec) :=
  OpenClaim.holds_of_wide 3 Tryz.f3 rfl rfl rfl rfl rfl rfl rfl ⟨rfl, rfl, rfl, rfl, rfl⟩ rfl rfl rfl rfl rfl (by kernel_rfl) Tryz.func3 (by kernel_rfl)
    (of_decide_eq_true (by kernel_rfl)) (by unfold Func.isWrapper; first | (rw [if_pos (by decide +kernel)]; kernel_rfl) | (rw [if_neg (by decide +kernel)]; exact ⟨rfl, rfl⟩))
    (fun os started H enc _ => lifted os started H enc)
theorem proved : Rows.WalkTellsSaid := over
#print axioms proved
end Go.Proofs.YtnpnjhopgedhkaaGreat.walkTells
namespace Go.Proofs.YtnpnjhopgedhkaaGreat
/-- The statement. -/
theorem walkTells_holds : Rows.WalkTellsSaid := walkTells.proved
end Go.Proofs.YtnpnjhopgedhkaaGreat
