/- New. Conditions: the list is short enough for any machine. -/
import Derived.Test.YtdkbmefidmljjaaW17
namespace Go.Proofs.Ytdkbmefidmljjaa
open Go.RowKit V Geo
set_option linter.unusedVariables false

abbrev E0 : Gl := fun _ => none
def meshOf (l : List Tr) : TS × LS := l.foldl addT ([], [])
/-- A mesh alone. -/
abbrev GMz (ts : TS) (z1 : Option (Nat × Obj)) (le : LS) (z2 : Option (Nat × Obj)) : Gl := GM3 ts z1 le z2 E0

attribute [local irreducible] VR VJ VC decOk decBt
set_option maxHeartbeats 4000000 in
theorem v_newM (l : List Tr) (hl : l.length < 1000000) (Q : Po) (hQ1 : replE [] [] [] l ≠ 0 → Q (.tup [.d (.v (.pointer none)), .d (.v (.int .i64 (replE [] [] [] l)))]) E0)
    (hQ2 : replE [] [] [] l = 0 → Q (.tup [.ptr (.g 0) 0, .d (.v (.int .i64 0))]) (GMz (meshOf l).1 none (meshOf l).2 none)) : VC Try.prog 5 [vL 6 (l.map Tr.v)] E0 Q := by
  refine VC.of_body Try.func5 rfl rfl rfl fun W0 h0 x0 hG0 => ?_
  simp only [args0]
  have hend : ∀ n o, E0 n = some o → False := fun n o e => by cases e
  repeat' (first | refine VJ.seq ?_ | refine VJ.skip ?_ | refine VJ.cond_t rfl ?_ | refine VJ.cond_f rfl ?_ | refine VJ.region_k fun K hK => ?_)
  iterate 2 (first | refine VR.move rfl rfl ?_ | refine VR.assign rfl rfl ?_ | refine VR.int rfl rfl rfl rfl ?_ | refine VR.box rfl rfl rfl ?_ | refine VR.buildL (n := 1) [_, _] tok rfl rfl rfl rfl rfl rfl rfl rfl ?_)
  refine VR.done (hK _ ?_); clear hK K
  repeat' (first | refine VJ.seq ?_ | refine VJ.skip ?_ | refine VJ.cond_t rfl ?_ | refine VJ.cond_f rfl ?_ | refine VJ.region_k fun K hK => ?_)
  refine VR.makeMapG 1 rfl Tr.v Value.bool rfl ?_
  refine VR.makeMapG 2 rfl En.v Tr.v rfl ?_
  refine VR.buildSt (xs := [.tmp 6, .tmp 7]) (n := 1) tok rfl rfl rfl rfl rfl rfl rfl rfl ?_
  refine VR.boxG 0 rfl rfl rfl rfl rfl ?_
  first | refine VR.move rfl rfl ?_ | refine VR.assign rfl rfl ?_ | refine VR.int rfl rfl rfl rfl ?_ | refine VR.box rfl rfl rfl ?_ | refine VR.buildL (n := 1) [_, _] tok rfl rfl rfl rfl rfl rfl rfl rfl ?_
  refine VR.done (hK _ ?_); clear hK K
  refine VJ.toG 0 [(4, vM), (0, vL 6 (l.map Tr.v))] [] (GMz [] none [] none) ?_ rfl (by repeat' (first | exact trivial | refine And.intro rfl ?_)) trivial (by rfl) (fun n => ?_)
  rotate_left
  · by_cases h0 : n = 0
    · subst h0; rfl
    by_cases h1 : n = 1
    · subst h1; rfl
    by_cases h2 : n = 2
    · subst h2; rfl
    · simp [gov, lk, h0, h1, h2]
  by_cases hE : replE [] [] [] l = 0
  · have hq := hQ2 hE
    repeat' (first | refine VJ.seq ?_ | refine VJ.skip ?_ | refine VJ.cond_t rfl ?_ | refine VJ.cond_f rfl ?_ | refine VJ.region_k fun K hK => ?_ | (refine VR.done (hK _ ?_); clear hK K) | (first | refine VR.move rfl rfl ?_ | refine VR.assign rfl rfl ?_ | refine VR.int rfl rfl rfl rfl ?_ | refine VR.box rfl rfl rfl ?_ | refine VR.buildL (n := 1) [_, _] tok rfl rfl rfl rfl rfl rfl rfl rfl ?_ | (refine VR.call fok17 rfl rfl rfl rfl ?_; refine VC.nils [none, some 6] ?_; refine v_replace [] [] [] l (by decide) hl _ (GM3_mesh [] none [] none _) _ (fun h => absurd hE h) (fun _ => ?_))))
    refine VJ.toG 0 [(3, vI 0), (2, vM)] [] (GMz (meshOf l).1 none (meshOf l).2 none) ?_ rfl (by repeat' (first | exact trivial | refine And.intro rfl ?_)) trivial (by rfl) (fun n => ?_)
    rotate_left
    · by_cases h2 : n = 2
      · subst h2; rfl
      by_cases h1 : n = 1
      · subst h1; rfl
      by_cases h0 : n = 0
      · subst h0; rfl
      · simp [gset, gov, lk, h0, h1, h2]
    refine VJ.retX (GMz (meshOf l).1 none (meshOf l).2 none) tok (by rfl) (by rfl) hG0 (fun n h => absurd rfl h) (fun n o h => .inr fun m hm => ?_) (fun n o h => h) (fun m hm => ?_) hq
    · have : n = 0 ∧ o = bxM ∨ (n = 1 ∧ o = mT (meshOf l).1 none) ∨ (n = 2 ∧ o = mL (meshOf l).2 none) := by
        by_cases h0 : n = 0
        · subst h0; exact .inl ⟨rfl, (Option.some.inj h).symm⟩
        by_cases h1 : n = 1
        · subst h1; exact .inr (.inl ⟨rfl, (Option.some.inj h).symm⟩)
        by_cases h2 : n = 2
        · subst h2; exact .inr (.inr ⟨rfl, (Option.some.inj h).symm⟩)
        · simp [gov, lk, h0, h1, h2] at h
      rcases this with ⟨rfl, rfl⟩ | ⟨rfl, rfl⟩ | ⟨rfl, rfl⟩
      · obtain ⟨x, hx, hs⟩ := hm
        simp only [List.mem_cons, List.not_mem_nil, or_false] at hx
        rcases hx with rfl | rfl <;> cases hs <;> simp [gov, lk]
      · exact hm.elim
      · exact hm.elim
    · obtain ⟨x, hx, hs⟩ := hm
      simp only [List.mem_cons, List.not_mem_nil, or_false] at hx
      rcases hx with rfl | rfl
      · cases hs; simp [gov, lk]
      · exact hs.elim
  · have hq := hQ1 hE
    have hE' : (replE [] [] [] l != 0) = true := by simpa using hE
    repeat' (first | refine VJ.seq ?_ | refine VJ.skip ?_ | refine VJ.cond_t rfl ?_ | refine VJ.cond_f rfl ?_ | refine VJ.region_k fun K hK => ?_ | (refine VR.done (hK _ ?_); clear hK K) | (first | refine VR.move rfl rfl ?_ | refine VR.assign rfl rfl ?_ | refine VR.int rfl rfl rfl rfl ?_ | refine VR.box rfl rfl rfl ?_ | refine VR.buildL (n := 1) [_, _] tok rfl rfl rfl rfl rfl rfl rfl rfl ?_ | (refine VR.call fok17 rfl rfl rfl rfl ?_; refine VC.nils [none, some 6] ?_; refine v_replace [] [] [] l (by decide) hl _ (GM3_mesh [] none [] none _) _ (fun _ => ?_) (fun h => absurd h hE))))
    refine VJ.cond rfl (fun hc => ?_) (fun hc => ?_)
    · repeat' (first | refine VJ.seq ?_ | refine VJ.skip ?_ | refine VJ.cond_t rfl ?_ | refine VJ.cond_f rfl ?_ | refine VJ.region_k fun K hK => ?_ | (refine VR.done (hK _ ?_); clear hK K) | (first | refine VR.move rfl rfl ?_ | refine VR.assign rfl rfl ?_ | refine VR.int rfl rfl rfl rfl ?_ | refine VR.box rfl rfl rfl ?_ | refine VR.buildL (n := 1) [_, _] tok rfl rfl rfl rfl rfl rfl rfl rfl ?_ | (refine VR.call fok17 rfl rfl rfl rfl ?_; refine VC.nils [none, some 6] ?_; refine v_replace [] [] [] l (by decide) hl _ (GM3_mesh [] none [] none _) _ (fun _ => ?_) (fun h => absurd h hE))))
      refine VJ.retF tok (by rfl) (by rfl) hG0 ?_ (by rfl) ?_
      · exact fun n o e => (hend n o e).elim
      · exact hq
    · have hc : (replE [] [] [] l != 0) = false := hc
      rw [hE'] at hc; cases hc
