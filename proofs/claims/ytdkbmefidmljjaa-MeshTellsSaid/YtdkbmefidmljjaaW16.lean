/- The edges around a triangle; what lets triangles go and others come. Conditions: the lists are short enough for any machine. -/
import Derived.Test.YtdkbmefidmljjaaW15
namespace Go.Proofs.Ytdkbmefidmljjaa
open Go.RowKit V Geo
set_option linter.unusedVariables false

def around (t : Tr) : List En := [⟨t.a, t.b⟩, ⟨t.b, t.c⟩, ⟨t.c, t.a⟩]
theorem around_get (t : Tr) {i : Nat} (hi : i < 3) : (around t)[i]? = some ⟨t.cor i, t.cor (i + 1)⟩ := by
  have h3 : i = 0 ∨ i = 1 ∨ i = 2 := by omega
  rcases h3 with rfl | rfl | rfl <;> rfl
theorem around_take (t : Tr) {i : Nat} (hi : i < 3) : (around t).take (i + 1) = (around t).take i ++ [⟨t.cor i, t.cor (i + 1)⟩] := by
  have h3 : i = 0 ∨ i = 1 ∨ i = 2 := by omega
  rcases h3 with rfl | rfl | rfl <;> rfl
theorem oneE (l : List En) : ∀ u ∈ l.map En.v, ∀ v ∈ u.cells.toList, v.oneCell' = true := by
  intro u hu v hv
  obtain ⟨w, _, rfl⟩ := List.mem_map.1 hu
  simp [En.v, Value.cells] at hv
  rcases hv with rfl | rfl | rfl | rfl <;> rfl
theorem map_get_e {l : List En} {j : Nat} (h : j < l.length) : (l.map En.v)[j]? = some l[j].v := by simp [h]
theorem map_get_t {l : List Tr} {j : Nat} (h : j < l.length) : (l.map Tr.v)[j]? = some l[j].v := by simp [h]
abbrev bxE (e : En) : VO := .box [.d (.v (.int .i64 e.a.x)), .d (.v (.int .i64 e.a.y)), .d (.v (.int .i64 e.b.x)), .d (.v (.int .i64 e.b.y))]

attribute [local irreducible] VR VJ VC decOk decBt
set_option maxHeartbeats 1000000 in
theorem v_around (t : Tr) (G : Gl) (Q : Po) (hQ : Q (vL 4 ((around t).map En.v)) G) : VC Try.prog 36 [vV t.v] G Q := by
  refine VC.of_body Try.func36 rfl rfl rfl fun W0 h0 x0 hG0 => ?_
  simp only [args0]
  repeat' (first | refine VJ.seq ?_ | refine VJ.skip ?_ | refine VJ.block ?_ | refine VJ.inBlock ?_ | refine VJ.exit rfl ?_ | refine VJ.cond_t rfl ?_ | refine VJ.cond_f rfl ?_ | refine VJ.region_k fun K hK => ?_ | (refine VR.done (hK _ ?_); clear hK K) | (first | refine VR.move rfl rfl ?_ | refine VR.assign rfl rfl ?_ | (show onLd; refine VR.load tok rfl rfl rfl (by first | rfl | exact (ldp_el (by assumption)).trans (by rfl)) ?_) | refine VR.int rfl rfl rfl rfl ?_ | refine VR.box rfl rfl rfl ?_ | refine VR.alloc tok rfl rfl rfl ?_ | refine VR.store tok rfl rfl rfl rfl rfl rfl rfl (by first | (intro n e; cases e; done) | exact (fun _ _ q => all_glA (by rfl) q)) ?_ | refine VR.extract rfl rfl rfl ?_ | refine VR.buildX [_, _, _, _] tok rfl rfl rfl rfl rfl rfl ?_))
  refine VJ.promote 2 58 4 (by decide) rfl ?_
  refine VJ.to 2 [(6, vI ((0 : Nat) : Int)), (2, .a (.own (.l 1))), (1, .a (.ptr (.l 0) 0))] [(1, .row 58 4 (((around t).take 0).map En.v)), (0, bxT t)] ?_ rfl (by repeat' (first | exact trivial | refine And.intro rfl ?_)) (by repeat' (first | exact trivial | refine And.intro rfl ?_)) (by rfl)
  refine VJ.rec (fun i : Nat => ⟨2, [(6, vI i), (2, .a (.own (.l 1))), (1, .a (.ptr (.l 0) 0))], [(1, .row 58 4 (((around t).take i).map En.v)), (0, bxT t)], G⟩) (fun i => 3 - i) (fun i => i ≤ 3) 0 (by decide) ?_
  intro i hi ih
  repeat' (first | refine VJ.seq ?_ | refine VJ.skip ?_ | refine VJ.block ?_ | refine VJ.inBlock ?_ | refine VJ.exit rfl ?_ | refine VJ.cond_t rfl ?_ | refine VJ.cond_f rfl ?_ | refine VJ.region_k fun K hK => ?_ | (refine VR.done (hK _ ?_); clear hK K) | (first | refine VR.move rfl rfl ?_ | refine VR.assign rfl rfl ?_ | (show onLd; refine VR.load tok rfl rfl rfl (by first | rfl | exact (ldp_el (by assumption)).trans (by rfl)) ?_) | refine VR.int rfl rfl rfl rfl ?_ | refine VR.box rfl rfl rfl ?_ | refine VR.alloc tok rfl rfl rfl ?_ | refine VR.store tok rfl rfl rfl rfl rfl rfl rfl (by first | (intro n e; cases e; done) | exact (fun _ _ q => all_glA (by rfl) q)) ?_ | refine VR.extract rfl rfl rfl ?_ | refine VR.buildX [_, _, _, _] tok rfl rfl rfl rfl rfl rfl ?_))
  refine VJ.cond rfl (fun hb => ?_) (fun hb => ?_)
  · have hlt : i < 3 := by
      have : (i : Int) < 3 := by simpa using hb
      omega
    have htk := around_take t hlt
    have hln : ((around t).take i).length ≤ 3 := List.length_take_le' i (around t)
    repeat' (first | refine VJ.seq ?_ | refine VJ.skip ?_ | refine VJ.block ?_ | refine VJ.inBlock ?_ | refine VJ.exit rfl ?_ | refine VJ.cond_t rfl ?_ | refine VJ.cond_f rfl ?_ | refine VJ.region_k fun K hK => ?_ | (refine VR.done (hK _ ?_); clear hK K) | (first | refine VR.move rfl rfl ?_ | refine VR.assign rfl rfl ?_ | (show onLd; refine VR.load tok rfl rfl rfl (by first | rfl | exact (ldp_el (by assumption)).trans (by rfl)) ?_) | refine VR.int rfl rfl rfl rfl ?_ | refine VR.box rfl rfl rfl ?_ | refine VR.alloc tok rfl rfl rfl ?_ | refine VR.store tok rfl rfl rfl rfl rfl rfl rfl (by first | (intro n e; cases e; done) | exact (fun _ _ q => all_glA (by rfl) q)) ?_ | refine VR.extract rfl rfl rfl ?_ | refine VR.buildX [_, _, _, _] tok rfl rfl rfl rfl rfl rfl ?_ | (refine VR.buildLst ([(⟨t.cor i, t.cor (i + 1)⟩ : En)].map En.v) tok (by rfl) (by rfl) (by rfl) (by rfl) (by rfl) (by rfl) (by rfl) (by rfl) (by rfl) (by rfl) (by rfl) ?_) | (refine VR.append tok (by rfl) (by rfl) (by rfl) (by rfl) (by rfl) (by rfl) (by rfl) (by rfl) (by rfl) (by rfl) (oneE [⟨t.cor i, t.cor (i + 1)⟩]) (by simp; omega) (by simp [maxLen]; omega) ?_)) | (refine VR.call fok26 rfl rfl rfl rfl ?_; refine (v_edge t i hlt _ _ ?_)))
    refine VJ.to 2 [(6, vI ((i + 1 : Nat) : Int)), (2, .a (.own (.l 1))), (1, .a (.ptr (.l 0) 0))] [(1, .row 58 4 (((around t).take (i + 1)).map En.v)), (0, bxT t)] (ih (i + 1) hlt (by omega)) rfl ⟨vI_succ (by omega), by rfl, by rfl, trivial⟩ ⟨by rw [htk, List.map_append]; rfl, by rfl, trivial⟩ (by rfl)
  have hge : i = 3 := by
    have : ¬ (i : Int) < 3 := by simpa using hb
    omega
  subst hge
  repeat' (first | refine VJ.seq ?_ | refine VJ.skip ?_ | refine VJ.block ?_ | refine VJ.inBlock ?_ | refine VJ.exit rfl ?_ | refine VJ.cond_t rfl ?_ | refine VJ.cond_f rfl ?_ | refine VJ.region_k fun K hK => ?_ | (refine VR.done (hK _ ?_); clear hK K) | (first | refine VR.move rfl rfl ?_ | refine VR.assign rfl rfl ?_ | (show onLd; refine VR.load tok rfl rfl rfl (by first | rfl | exact (ldp_el (by assumption)).trans (by rfl)) ?_) | refine VR.int rfl rfl rfl rfl ?_ | refine VR.box rfl rfl rfl ?_ | refine VR.alloc tok rfl rfl rfl ?_ | refine VR.store tok rfl rfl rfl rfl rfl rfl rfl (by first | (intro n e; cases e; done) | exact (fun _ _ q => all_glA (by rfl) q)) ?_ | refine VR.extract rfl rfl rfl ?_ | refine VR.buildX [_, _, _, _] tok rfl rfl rfl rfl rfl rfl ?_))
  refine VJ.ret tok (by rfl) (by rfl) ?_
  exact hQ
