/- A mesh among the objects; its triangles and its points in order. Conditions: a map fits a machine. -/
import Derived.Test.YtdkbmefidmljjaaK4
import Derived.Test.YtdkbmefidmljjaaV27
namespace Go.Proofs.Ytdkbmefidmljjaa
open Go.RowKit V Geo
set_option linter.unusedVariables false

attribute [local irreducible] VR VJ VC decOk decBt
theorem v_keysT (gm gb : Nat) (s : List (Tr × Bool)) (z : Option (Nat × Obj)) (G : Gl) (hm : G gm = some (.map Tr.v Value.bool s z)) (hb : G gb = none) (Q : Po) (hQ : Q (.fn 45 [.ptr (.g gb) 0]) (fun n => if n = gb then some (.box [.mp (.g gm)]) else G n)) : VC Try.prog 28 [.a (.mp (.g gm))] G Q := by
  have hne : gm ≠ gb := by rintro rfl; rw [hb] at hm; cases hm
  refine VC.of_body Try.func28 rfl rfl rfl fun W0 h0 x0 hG0 => ?_
  simp only [args0]
  repeat' (first | refine VJ.seq ?_ | refine VJ.skip ?_ | refine VJ.cond_t rfl ?_ | refine VJ.cond_f rfl ?_ | refine VJ.region_k fun K hK => ?_)
  refine VR.boxG gb hb rfl rfl rfl rfl ?_
  repeat' (first | refine VJ.seq ?_ | refine VJ.skip ?_ | refine VJ.cond_t rfl ?_ | refine VJ.cond_f rfl ?_ | refine VJ.region_k fun K hK => ?_ | (refine VR.done (hK _ ?_); clear hK K) | (first | refine VR.assign rfl rfl ?_ | refine VR.box rfl rfl rfl ?_ | refine VR.makeFunc rfl rfl ?_))
  refine VJ.retX (fun n => if n = gb then some (.box [.mp (.g gm)]) else G n) tok (by rfl) (by rfl) hG0 (fun n h => ?_) (fun n o h => ?_) (fun n o h => h) (fun m h => ?_) hQ
  · by_cases e : n = gb
    · rw [if_pos e]; simp
    · rw [if_neg e]; exact h
  · by_cases e : n = gb
    · rw [if_pos e] at h
      cases h
      refine .inr fun m hm2 => ?_
      obtain ⟨x, hx, hs⟩ := hm2
      simp only [List.mem_cons, List.not_mem_nil, or_false] at hx
      subst hx
      cases hs
      rw [if_neg hne, hm]; simp
    · rw [if_neg e] at h; exact .inl h
  · obtain ⟨x, hx, hs⟩ := h
    simp only [List.mem_cons, List.not_mem_nil, or_false] at hx
    subst hx
    cases hs
    rw [if_pos rfl]; simp
theorem v_sortedT (gm gb : Nat) (s : List (Tr × Bool)) (few : s.length < 100000) (z : Option (Nat × Obj)) (G : Gl) (hm : G gm = some (.map Tr.v Value.bool s z)) (hb : G gb = some (.box [.mp (.g gm)])) (Q : Po) (hQ : Q (vL 6 ((sortT (s.map (·.1))).map Tr.v)) G) : VC Try.prog 27 [.fn 45 [.ptr (.g gb) 0], .fn 29 []] G Q :=
  VC.of_keys hb hm (fun Bm b w h1 h2 h3 => keysSorted_c Bm b s few w h1 h2 h3) (fun x hx => by obtain ⟨t, _, rfl⟩ := List.mem_map.1 hx; rfl) hQ
theorem v_keysP (gm gb : Nat) (s : List (Pt × Bool)) (z : Option (Nat × Obj)) (G : Gl) (hm : G gm = some (.map ptV Value.bool s z)) (hb : G gb = none) (Q : Po) (hQ : Q (.fn 51 [.ptr (.g gb) 0]) (fun n => if n = gb then some (.box [.mp (.g gm)]) else G n)) : VC Try.prog 34 [.a (.mp (.g gm))] G Q := by
  have hne : gm ≠ gb := by rintro rfl; rw [hb] at hm; cases hm
  refine VC.of_body Try.func34 rfl rfl rfl fun W0 h0 x0 hG0 => ?_
  simp only [args0]
  repeat' (first | refine VJ.seq ?_ | refine VJ.skip ?_ | refine VJ.cond_t rfl ?_ | refine VJ.cond_f rfl ?_ | refine VJ.region_k fun K hK => ?_)
  refine VR.boxG gb hb rfl rfl rfl rfl ?_
  repeat' (first | refine VJ.seq ?_ | refine VJ.skip ?_ | refine VJ.cond_t rfl ?_ | refine VJ.cond_f rfl ?_ | refine VJ.region_k fun K hK => ?_ | (refine VR.done (hK _ ?_); clear hK K) | (first | refine VR.assign rfl rfl ?_ | refine VR.box rfl rfl rfl ?_ | refine VR.makeFunc rfl rfl ?_))
  refine VJ.retX (fun n => if n = gb then some (.box [.mp (.g gm)]) else G n) tok (by rfl) (by rfl) hG0 (fun n h => ?_) (fun n o h => ?_) (fun n o h => h) (fun m h => ?_) hQ
  · by_cases e : n = gb
    · rw [if_pos e]; simp
    · rw [if_neg e]; exact h
  · by_cases e : n = gb
    · rw [if_pos e] at h
      cases h
      refine .inr fun m hm2 => ?_
      obtain ⟨x, hx, hs⟩ := hm2
      simp only [List.mem_cons, List.not_mem_nil, or_false] at hx
      subst hx
      cases hs
      rw [if_neg hne, hm]; simp
    · rw [if_neg e] at h; exact .inl h
  · obtain ⟨x, hx, hs⟩ := h
    simp only [List.mem_cons, List.not_mem_nil, or_false] at hx
    subst hx
    cases hs
    rw [if_pos rfl]; simp
theorem v_sortedP (gm gb : Nat) (s : List (Pt × Bool)) (few : s.length < 100000) (z : Option (Nat × Obj)) (G : Gl) (hm : G gm = some (.map ptV Value.bool s z)) (hb : G gb = some (.box [.mp (.g gm)])) (Q : Po) (hQ : Q (vL 2 ((sortP (s.map (·.1))).map ptV)) G) : VC Try.prog 33 [.fn 51 [.ptr (.g gb) 0], .fn 35 []] G Q :=
  VC.of_keys hb hm (fun Bm b w h1 h2 h3 => keysSorted_cP Bm b s few w h1 h2 h3) (fun x hx => by obtain ⟨t, _, rfl⟩ := List.mem_map.1 hx; rfl) hQ
