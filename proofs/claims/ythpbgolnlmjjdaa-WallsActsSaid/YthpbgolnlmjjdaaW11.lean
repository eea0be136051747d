/- Those that are so, in order; all, at a point, on a point. Conditions: fewer than a hundred thousand. -/
import Derived.Test.YthpbgolnlmjjdaaW7
import Derived.Test.YthpbgolnlmjjdaaW10
namespace Go.Proofs.Ythpbgolnlmjjdaa
open Go.RowKit V Geo Go.Sort Go.Shelf
set_option linter.unusedVariables false
attribute [local irreducible] VR VJ VC decOk decBt

def toW (q : En × Int) : Wl := ⟨q.1.a, q.1.b, q.2⟩
def flt (p : Pt → Pt → Bool) (s : List (En × Int)) : List Wl := (s.filter fun q => p q.1.a q.1.b).map toW
def those (s : List (En × Int)) (p : Pt → Pt → Bool) : List Wl := sortW (flt p s)
theorem flt_snoc (p : Pt → Pt → Bool) (dn : List (En × Int)) (x : En) (c : Int) : flt p (dn ++ [(x, c)]) = flt p dn ++ (if p x.a x.b then [toW (x, c)] else []) := by
  unfold flt
  rw [List.filter_append, List.map_append]
  congr 1
  by_cases h : p x.a x.b = true <;> simp [h]
theorem flt_length (p : Pt → Pt → Bool) (dn : List (En × Int)) : (flt p dn).length ≤ dn.length := by
  unfold flt
  rw [List.length_map]
  exact List.length_filter_le _ _
theorem those_eq (s : List (En × Int)) (p : Pt → Pt → Bool) (dn : List (En × Int)) (h : dn.Perm s) : sortW (flt p dn) = those s p :=
  sortW_eq ((h.filter _).map _)

theorem v_those (s : List (En × Int)) (few : s.length < 100000) (G : Gl) (hG : SetP G s) (f : Nat) (caps : List A) (hf : FnOk Try.prog f) (hcap : caps.all glA = true) (p : Pt → Pt → Bool)
    (hp : ∀ a b (Q : Po), Q (vB (p a b)) G → VC Try.prog f (vV (ptV a) :: vV (ptV b) :: caps.map AV.a) G Q) (Q : Po) (hQ : Q (vL 5 ((those s p).map Wl.v)) G) : VC Try.prog 34 [vS, .fn f caps] G Q := by
  obtain ⟨z, hg⟩ := hG.ok
  have eG := gov_self hg
  rw [eG] at hQ hp ⊢
  clear eG hg hG
  have hcg : (caps.map AV.a).all glV = true := by rw [List.all_map]; exact hcap
  refine VC.of_body Try.func34 rfl rfl rfl fun W0 h0 x0 hG0 => ?_
  simp only [args0]
  repeat' (first | refine VJ.seq ?_ | refine VJ.skip ?_ | refine VJ.block ?_ | refine VJ.inBlock ?_ | refine VJ.exit rfl ?_ | refine VJ.cond_t rfl ?_ | refine VJ.cond_f rfl ?_ | refine VJ.region_k fun K hK => ?_ | (refine VR.done (hK _ ?_); clear hK K) | (first | refine VR.move rfl rfl ?_ | refine VR.assign rfl rfl ?_ | (show onLd; refine VR.load tok rfl rfl rfl (by first | rfl | exact (ldp_el (by assumption)).trans (by rfl)) ?_) | (show onFa; refine VR.fieldAddr tok rfl rfl rfl (by first | rfl | exact place_el (by assumption)) rfl rfl ?_) | refine VR.int rfl rfl rfl rfl ?_ | refine VR.alloc tok rfl rfl rfl ?_ | refine VR.store tok rfl rfl rfl rfl rfl rfl rfl (by first | (intro n e; cases e; done) | exact (fun _ _ q => all_glA (by rfl) q)) ?_ | refine VR.nilCheck rfl rfl rfl ?_ | refine VR.extract rfl rfl rfl ?_ | refine VR.buildX [_, _, _, _, _] tok rfl rfl rfl rfl rfl rfl ?_ | refine VR.eqNil rfl rfl rfl rfl (ptrOk (by rfl)) ?_ | refine VR.neNil rfl rfl rfl rfl (ptrOk (by rfl)) ?_ | refine VR.range rfl rfl rfl (mapOk (by rfl)) ?_))
  refine VJ.promote 4 32 5 (by decide) rfl ?_
  refine VJ.to 2 [(4, .a (.own (.l 1))), (13, .a (.ptr (.l 0) 0)), (1, .fn f caps)] [(1, .row 32 5 ((flt p []).map Wl.v)), (0, .itr En.v (Value.int .i64) s s z none)] ?_ rfl (by repeat' (first | exact trivial | refine And.intro rfl ?_)) (by repeat' (first | exact trivial | refine And.intro rfl ?_)) (by simp [okF, ltV, ltO, ltA, glA_ltA hcap])
  refine VJ.rec (fun a : List (En × Int) × List (En × Int) × Option Value => ⟨2, [(4, .a (.own (.l 1))), (13, .a (.ptr (.l 0) 0)), (1, .fn f caps)], [(1, .row 32 5 ((flt p a.1).map Wl.v)), (0, .itr En.v (Value.int .i64) s a.2.1 z a.2.2)], _⟩) (fun a => a.2.1.length) (fun a => (a.1 ++ a.2.1).Perm s) ([], s, none) (by simp) ?_
  rintro ⟨dn, left, cur⟩ hpm ih
  dsimp only at hpm ih ⊢
  repeat' (first | refine VJ.seq ?_ | refine VJ.skip ?_ | refine VJ.block ?_ | refine VJ.inBlock ?_ | refine VJ.exit rfl ?_ | refine VJ.cond_t rfl ?_ | refine VJ.cond_f rfl ?_ | refine VJ.region_k fun K hK => ?_ | (refine VR.done (hK _ ?_); clear hK K) | (first | refine VR.move rfl rfl ?_ | refine VR.assign rfl rfl ?_ | (show onLd; refine VR.load tok rfl rfl rfl (by first | rfl | exact (ldp_el (by assumption)).trans (by rfl)) ?_) | (show onFa; refine VR.fieldAddr tok rfl rfl rfl (by first | rfl | exact place_el (by assumption)) rfl rfl ?_) | refine VR.int rfl rfl rfl rfl ?_ | refine VR.alloc tok rfl rfl rfl ?_ | refine VR.store tok rfl rfl rfl rfl rfl rfl rfl (by first | (intro n e; cases e; done) | exact (fun _ _ q => all_glA (by rfl) q)) ?_ | refine VR.nilCheck rfl rfl rfl ?_ | refine VR.extract rfl rfl rfl ?_ | refine VR.buildX [_, _, _, _, _] tok rfl rfl rfl rfl rfl rfl ?_ | refine VR.eqNil rfl rfl rfl rfl (ptrOk (by rfl)) ?_ | refine VR.neNil rfl rfl rfl rfl (ptrOk (by rfl)) ?_ | refine VR.range rfl rfl rfl (mapOk (by rfl)) ?_))
  refine VR.next (i := .g 1) rfl rfl rfl rfl ?_ ?_
  · intro hl
    subst hl
    repeat' (first | refine VJ.seq ?_ | refine VJ.skip ?_ | refine VJ.block ?_ | refine VJ.inBlock ?_ | refine VJ.exit rfl ?_ | refine VJ.cond_t rfl ?_ | refine VJ.cond_f rfl ?_ | refine VJ.region_k fun K hK => ?_ | (refine VR.done (hK _ ?_); clear hK K) | (first | refine VR.move rfl rfl ?_ | refine VR.assign rfl rfl ?_ | (show onLd; refine VR.load tok rfl rfl rfl (by first | rfl | exact (ldp_el (by assumption)).trans (by rfl)) ?_) | (show onFa; refine VR.fieldAddr tok rfl rfl rfl (by first | rfl | exact place_el (by assumption)) rfl rfl ?_) | refine VR.int rfl rfl rfl rfl ?_ | refine VR.alloc tok rfl rfl rfl ?_ | refine VR.store tok rfl rfl rfl rfl rfl rfl rfl (by first | (intro n e; cases e; done) | exact (fun _ _ q => all_glA (by rfl) q)) ?_ | refine VR.nilCheck rfl rfl rfl ?_ | refine VR.extract rfl rfl rfl ?_ | refine VR.buildX [_, _, _, _, _] tok rfl rfl rfl rfl rfl rfl ?_ | refine VR.eqNil rfl rfl rfl rfl (ptrOk (by rfl)) ?_ | refine VR.neNil rfl rfl rfl rfl (ptrOk (by rfl)) ?_ | refine VR.range rfl rfl rfl (mapOk (by rfl)) ?_))
    have hfew : (flt p dn).length < 1000000 := by
      have h1 := flt_length p dn
      have h2 := hpm.length_eq
      simp at h2
      omega
    have hth := those_eq s p dn (by simpa using hpm)
    refine VR.rowcall (xs' := (sortW (flt p dn)).map Wl.v) fok56 rfl rfl rfl rfl rfl (fun x hx => ?_) (by simpa using (sortW_perm _).length_eq) (sort_g (flt p dn) hfew) ?_
    · obtain ⟨y, _, rfl⟩ := List.mem_map.1 hx; rfl
    repeat' (first | refine VJ.seq ?_ | refine VJ.skip ?_ | refine VJ.block ?_ | refine VJ.inBlock ?_ | refine VJ.exit rfl ?_ | refine VJ.cond_t rfl ?_ | refine VJ.cond_f rfl ?_ | refine VJ.region_k fun K hK => ?_ | (refine VR.done (hK _ ?_); clear hK K) | (first | refine VR.move rfl rfl ?_ | refine VR.assign rfl rfl ?_ | (show onLd; refine VR.load tok rfl rfl rfl (by first | rfl | exact (ldp_el (by assumption)).trans (by rfl)) ?_) | (show onFa; refine VR.fieldAddr tok rfl rfl rfl (by first | rfl | exact place_el (by assumption)) rfl rfl ?_) | refine VR.int rfl rfl rfl rfl ?_ | refine VR.alloc tok rfl rfl rfl ?_ | refine VR.store tok rfl rfl rfl rfl rfl rfl rfl (by first | (intro n e; cases e; done) | exact (fun _ _ q => all_glA (by rfl) q)) ?_ | refine VR.nilCheck rfl rfl rfl ?_ | refine VR.extract rfl rfl rfl ?_ | refine VR.buildX [_, _, _, _, _] tok rfl rfl rfl rfl rfl rfl ?_ | refine VR.eqNil rfl rfl rfl rfl (ptrOk (by rfl)) ?_ | refine VR.neNil rfl rfl rfl rfl (ptrOk (by rfl)) ?_ | refine VR.range rfl rfl rfl (mapOk (by rfl)) ?_))
    refine VJ.ret tok (by rfl) (by rfl) ?_
    rw [hth]
    exact hQ
  · intro x c y z' hl
    subst hl
    repeat' (first | refine VJ.seq ?_ | refine VJ.skip ?_ | refine VJ.block ?_ | refine VJ.inBlock ?_ | refine VJ.exit rfl ?_ | refine VJ.cond_t rfl ?_ | refine VJ.cond_f rfl ?_ | refine VJ.region_k fun K hK => ?_ | (refine VR.done (hK _ ?_); clear hK K) | (first | refine VR.move rfl rfl ?_ | refine VR.assign rfl rfl ?_ | (show onLd; refine VR.load tok rfl rfl rfl (by first | rfl | exact (ldp_el (by assumption)).trans (by rfl)) ?_) | (show onFa; refine VR.fieldAddr tok rfl rfl rfl (by first | rfl | exact place_el (by assumption)) rfl rfl ?_) | refine VR.int rfl rfl rfl rfl ?_ | refine VR.alloc tok rfl rfl rfl ?_ | refine VR.store tok rfl rfl rfl rfl rfl rfl rfl (by first | (intro n e; cases e; done) | exact (fun _ _ q => all_glA (by rfl) q)) ?_ | refine VR.nilCheck rfl rfl rfl ?_ | refine VR.extract rfl rfl rfl ?_ | refine VR.buildX [_, _, _, _, _] tok rfl rfl rfl rfl rfl rfl ?_ | refine VR.eqNil rfl rfl rfl rfl (ptrOk (by rfl)) ?_ | refine VR.neNil rfl rfl rfl rfl (ptrOk (by rfl)) ?_ | refine VR.range rfl rfl rfl (mapOk (by rfl)) ?_ | (refine VR.entry (i := .g 1) rfl rfl rfl rfl ?_)))
    refine VR.call hf rfl rfl rfl (by simpa [glV, glA] using hcg) (hp x.a x.b _ ?_)
    repeat' (first | refine VJ.seq ?_ | refine VJ.skip ?_ | refine VJ.block ?_ | refine VJ.inBlock ?_ | refine VJ.exit rfl ?_ | refine VJ.cond_t rfl ?_ | refine VJ.cond_f rfl ?_ | refine VJ.region_k fun K hK => ?_ | (refine VR.done (hK _ ?_); clear hK K) | (first | refine VR.move rfl rfl ?_ | refine VR.assign rfl rfl ?_ | (show onLd; refine VR.load tok rfl rfl rfl (by first | rfl | exact (ldp_el (by assumption)).trans (by rfl)) ?_) | (show onFa; refine VR.fieldAddr tok rfl rfl rfl (by first | rfl | exact place_el (by assumption)) rfl rfl ?_) | refine VR.int rfl rfl rfl rfl ?_ | refine VR.alloc tok rfl rfl rfl ?_ | refine VR.store tok rfl rfl rfl rfl rfl rfl rfl (by first | (intro n e; cases e; done) | exact (fun _ _ q => all_glA (by rfl) q)) ?_ | refine VR.nilCheck rfl rfl rfl ?_ | refine VR.extract rfl rfl rfl ?_ | refine VR.buildX [_, _, _, _, _] tok rfl rfl rfl rfl rfl rfl ?_ | refine VR.eqNil rfl rfl rfl rfl (ptrOk (by rfl)) ?_ | refine VR.neNil rfl rfl rfl rfl (ptrOk (by rfl)) ?_ | refine VR.range rfl rfl rfl (mapOk (by rfl)) ?_ | (refine VR.entry (i := .g 1) rfl rfl rfl rfl ?_)))
    have hfew : (flt p dn).length < 100000 := by
      have h1 := flt_length p dn
      have h2 := hpm.length_eq
      simp at h2
      omega
    have hpm' : ((dn ++ [(x, c)]) ++ (y ++ z')).Perm s := by
      refine List.Perm.trans ?_ hpm
      rw [List.append_assoc]
      refine List.Perm.append_left dn ?_
      simpa using (List.perm_middle (a := (x, c)) (l₁ := y) (l₂ := z')).symm
    refine VJ.cond rfl (fun hc => ?_) (fun hc => ?_)
    · repeat' (first | refine VJ.seq ?_ | refine VJ.skip ?_ | refine VJ.block ?_ | refine VJ.inBlock ?_ | refine VJ.exit rfl ?_ | refine VJ.cond_t rfl ?_ | refine VJ.cond_f rfl ?_ | refine VJ.region_k fun K hK => ?_ | (refine VR.done (hK _ ?_); clear hK K) | (first | refine VR.move rfl rfl ?_ | refine VR.assign rfl rfl ?_ | (show onLd; refine VR.load tok rfl rfl rfl (by first | rfl | exact (ldp_el (by assumption)).trans (by rfl)) ?_) | (show onFa; refine VR.fieldAddr tok rfl rfl rfl (by first | rfl | exact place_el (by assumption)) rfl rfl ?_) | refine VR.int rfl rfl rfl rfl ?_ | refine VR.alloc tok rfl rfl rfl ?_ | refine VR.store tok rfl rfl rfl rfl rfl rfl rfl (by first | (intro n e; cases e; done) | exact (fun _ _ q => all_glA (by rfl) q)) ?_ | refine VR.nilCheck rfl rfl rfl ?_ | refine VR.extract rfl rfl rfl ?_ | refine VR.buildX [_, _, _, _, _] tok rfl rfl rfl rfl rfl rfl ?_ | refine VR.eqNil rfl rfl rfl rfl (ptrOk (by rfl)) ?_ | refine VR.neNil rfl rfl rfl rfl (ptrOk (by rfl)) ?_ | refine VR.range rfl rfl rfl (mapOk (by rfl)) ?_ | (refine VR.entry (i := .g 1) rfl rfl rfl rfl ?_)))
      refine VR.buildRow [(toW (x, c)).v] tok (by rfl) (by rfl) (by rfl) (by rfl) (by rfl) (by rfl) (by rfl) (by rfl) (by rfl) (by rfl) (by rfl) ?_
      refine VR.append tok (by rfl) (by rfl) (by rfl) (by rfl) (by rfl) (by rfl) (by rfl) (by rfl) (by rfl) (by rfl) (fun u hu v hv => by simp at hu; subst hu; simp [Wl.v, Value.cells] at hv; rcases hv with rfl | rfl | rfl | rfl | rfl <;> rfl) (by simp; omega) (by simp [maxLen]; omega) ?_
      repeat' (first | refine VJ.seq ?_ | refine VJ.skip ?_ | refine VJ.block ?_ | refine VJ.inBlock ?_ | refine VJ.exit rfl ?_ | refine VJ.cond_t rfl ?_ | refine VJ.cond_f rfl ?_ | refine VJ.region_k fun K hK => ?_ | (refine VR.done (hK _ ?_); clear hK K) | (first | refine VR.move rfl rfl ?_ | refine VR.assign rfl rfl ?_ | (show onLd; refine VR.load tok rfl rfl rfl (by first | rfl | exact (ldp_el (by assumption)).trans (by rfl)) ?_) | (show onFa; refine VR.fieldAddr tok rfl rfl rfl (by first | rfl | exact place_el (by assumption)) rfl rfl ?_) | refine VR.int rfl rfl rfl rfl ?_ | refine VR.alloc tok rfl rfl rfl ?_ | refine VR.store tok rfl rfl rfl rfl rfl rfl rfl (by first | (intro n e; cases e; done) | exact (fun _ _ q => all_glA (by rfl) q)) ?_ | refine VR.nilCheck rfl rfl rfl ?_ | refine VR.extract rfl rfl rfl ?_ | refine VR.buildX [_, _, _, _, _] tok rfl rfl rfl rfl rfl rfl ?_ | refine VR.eqNil rfl rfl rfl rfl (ptrOk (by rfl)) ?_ | refine VR.neNil rfl rfl rfl rfl (ptrOk (by rfl)) ?_ | refine VR.range rfl rfl rfl (mapOk (by rfl)) ?_ | (refine VR.entry (i := .g 1) rfl rfl rfl rfl ?_)))
      refine VJ.to 2 [(4, .a (.own (.l 1))), (13, .a (.ptr (.l 0) 0)), (1, .fn f caps)] [(1, .row 32 5 ((flt p (dn ++ [(x, c)])).map Wl.v)), (0, .itr En.v (Value.int .i64) s (y ++ z') z (some (.tuple #[x.v, .int .i64 c])))] ?_ rfl ?_ ?_ (by simp [okF, ltV, ltO, ltA, glA_ltA hcap])
      · exact ih (dn ++ [(x, c)], y ++ z', _) hpm' (by simp)
      · refine ⟨by rfl, by rfl, ?_, trivial⟩
        show some (AV.fn f (caps.map (A.kill (.l 1)))) = _
        rw [kill_gl hcap]
      · refine ⟨?_, by rfl, trivial⟩
        rw [flt_snoc, hc]
        simp only [if_true, List.map_append]
        rfl
    · repeat' (first | refine VJ.seq ?_ | refine VJ.skip ?_ | refine VJ.block ?_ | refine VJ.inBlock ?_ | refine VJ.exit rfl ?_ | refine VJ.cond_t rfl ?_ | refine VJ.cond_f rfl ?_ | refine VJ.region_k fun K hK => ?_ | (refine VR.done (hK _ ?_); clear hK K) | (first | refine VR.move rfl rfl ?_ | refine VR.assign rfl rfl ?_ | (show onLd; refine VR.load tok rfl rfl rfl (by first | rfl | exact (ldp_el (by assumption)).trans (by rfl)) ?_) | (show onFa; refine VR.fieldAddr tok rfl rfl rfl (by first | rfl | exact place_el (by assumption)) rfl rfl ?_) | refine VR.int rfl rfl rfl rfl ?_ | refine VR.alloc tok rfl rfl rfl ?_ | refine VR.store tok rfl rfl rfl rfl rfl rfl rfl (by first | (intro n e; cases e; done) | exact (fun _ _ q => all_glA (by rfl) q)) ?_ | refine VR.nilCheck rfl rfl rfl ?_ | refine VR.extract rfl rfl rfl ?_ | refine VR.buildX [_, _, _, _, _] tok rfl rfl rfl rfl rfl rfl ?_ | refine VR.eqNil rfl rfl rfl rfl (ptrOk (by rfl)) ?_ | refine VR.neNil rfl rfl rfl rfl (ptrOk (by rfl)) ?_ | refine VR.range rfl rfl rfl (mapOk (by rfl)) ?_ | (refine VR.entry (i := .g 1) rfl rfl rfl rfl ?_)))
      refine VJ.to 2 [(4, .a (.own (.l 1))), (13, .a (.ptr (.l 0) 0)), (1, .fn f caps)] [(1, .row 32 5 ((flt p (dn ++ [(x, c)])).map Wl.v)), (0, .itr En.v (Value.int .i64) s (y ++ z') z (some (.tuple #[x.v, .int .i64 c])))] ?_ rfl ?_ ?_ (by simp [okF, ltV, ltO, ltA, glA_ltA hcap])
      · exact ih (dn ++ [(x, c)], y ++ z', _) hpm' (by simp)
      · exact (by repeat' (first | exact trivial | refine And.intro rfl ?_))
      · refine ⟨?_, by rfl, trivial⟩
        rw [flt_snoc, hc]
        simp only [Bool.false_eq_true, if_false, List.append_nil]
        rfl

theorem v_allS (s : List (En × Int)) (few : s.length < 100000) (G : Gl) (hG : SetP G s) (Q : Po) (hQ : Q (vL 5 ((those s fun _ _ => true).map Wl.v)) G) : VC Try.prog 10 [vS] G Q := by
  refine VC.of_body Try.func10 rfl rfl rfl fun W0 h0 x0 hG0 => ?_
  simp only [args0]
  repeat' (first | refine VJ.seq ?_ | refine VJ.skip ?_ | refine VJ.cond_t rfl ?_ | refine VJ.cond_f rfl ?_ | refine VJ.region_k fun K hK => ?_ | (refine VR.done (hK _ ?_); clear hK K) | (first | refine VR.move rfl rfl ?_ | refine VR.assign rfl rfl ?_ | (refine VR.entry (i := .g 1) rfl rfl rfl rfl ?_)) | (refine VR.call fok34 rfl rfl rfl rfl ?_; refine (v_those s few _ hG 35 [] fok35 rfl (fun _ _ => true) (fun a b Q h => v_all1 a b _ Q h) _ ?_)))
  refine VJ.ret tok (by rfl) (by rfl) ?_
  exact hQ

def atP (p a b : Pt) : Bool := decide (p = a ∨ p = b)
theorem v_at (s : List (En × Int)) (few : s.length < 100000) (p : Pt) (G : Gl) (hG : SetP G s) (hfr : Free 10 11 G) (Q : Po) (hQ : Q (vL 5 ((those s (atP p)).map Wl.v)) G) : VC Try.prog 17 [vS, vV (ptV p)] G Q := by
  refine VC.of_body Try.func17 rfl rfl rfl fun W0 h0 x0 hG0 => ?_
  simp only [args0]
  refine VJ.seq ?_
  refine VJ.region_k fun K hK => ?_
  refine VR.boxG 10 (hfr 10 (by decide) (by decide)) rfl rfl rfl rfl ?_
  repeat' (first | refine VJ.seq ?_ | refine VJ.skip ?_ | refine VJ.cond_t rfl ?_ | refine VJ.cond_f rfl ?_ | refine VJ.region_k fun K hK => ?_ | (refine VR.done (hK _ ?_); clear hK K) | (first | refine VR.move rfl rfl ?_ | refine VR.assign rfl rfl ?_ | refine VR.box rfl rfl rfl ?_ | refine VR.makeFunc rfl rfl ?_ | (refine VR.entry (i := .g 1) rfl rfl rfl rfl ?_)) | (refine VR.call fok34 rfl rfl rfl rfl ?_; refine (v_those s few _ (by exact ⟨hG.g0, hG.g1⟩) 44 [.ptr (.g 10) 0] fok44 rfl (atP p) (fun a b Q h => v_at1 p a b _ (by exact ⟨rfl, trivial⟩) Q h) _ ?_)))
  refine VJ.retF tok (by rfl) (by rfl) hG0 ?_ (by rfl) ?_
  · intro n o h
    have hn := hfr.ne h
    simp [hn 10 (by decide) (by decide), h]
  · exact hQ

theorem v_on (s : List (En × Int)) (few : s.length < 100000) (p : Pt) (G : Gl) (hG : SetP G s) (hfr : Free 10 11 G) (Q : Po)
    (hQ : Q (.tup [.d (.v ((those s (onIn p)).head?.getD wl0).v), .d (.v (.bool (those s (onIn p)).head?.isSome))]) G) : VC Try.prog 18 [vS, vV (ptV p)] G Q := by
  have hret : ∀ n o, G n = some o → (if n = 10 then some (bxP p) else G n) = some o := by
    intro n o h
    have hn := hfr.ne h
    simp [hn 10 (by decide) (by decide), h]
  refine VC.of_body Try.func18 rfl rfl rfl fun W0 h0 x0 hG0 => ?_
  simp only [args0]
  refine VJ.seq ?_
  refine VJ.region_k fun K hK => ?_
  refine VR.boxG 10 (hfr 10 (by decide) (by decide)) rfl rfl rfl rfl ?_
  have hth : ∃ l, l = those s (onIn p) := ⟨_, rfl⟩
  obtain ⟨l, hl⟩ := hth
  rw [← hl] at hQ
  cases l with
  | nil =>
    repeat' (first | refine VJ.seq ?_ | refine VJ.skip ?_ | refine VJ.cond_t rfl ?_ | refine VJ.cond_f rfl ?_ | refine VJ.region_k fun K hK => ?_ | (refine VR.done (hK _ ?_); clear hK K) | (first | refine VR.move rfl rfl ?_ | refine VR.assign rfl rfl ?_ | (show onLd; refine VR.load tok rfl rfl rfl (by first | rfl | exact (ldp_el (by assumption)).trans (by rfl)) ?_) | (show onIx; refine VR.indexAddr tok rfl rfl rfl rfl rfl rfl rfl (elA_lst (by assumption)) ?_) | refine VR.int rfl rfl rfl rfl ?_ | refine VR.box rfl rfl rfl ?_ | refine VR.alloc tok rfl rfl rfl ?_ | refine VR.store tok rfl rfl rfl rfl rfl rfl rfl (by first | (intro n e; cases e; done) | exact (fun _ _ q => all_glA (by rfl) q)) ?_ | refine VR.buildX [_, _, _, _, _] tok rfl rfl rfl rfl rfl rfl ?_ | refine VR.makeFunc rfl rfl ?_ | refine VR.len tok rfl rfl rfl rfl rfl ?_ | (refine VR.call fok34 rfl rfl rfl (by rfl) ?_; refine v_those s few _ (by exact ⟨hG.g0, hG.g1⟩) 45 [.ptr (.g 10) 0] fok45 rfl (onIn p) (fun a b Q h => v_on1 p a b _ (by exact ⟨rfl, trivial⟩) Q h) _ ?_; rw [← hl])))
    refine VJ.retF tok (by rfl) (by rfl) hG0 ?_ (by rfl) ?_
    · exact hret
    · exact hQ
  | cons w0 l' =>
    have hget : ((w0 :: l').map Wl.v)[0]? = some w0.v := rfl
    repeat' (first | refine VJ.seq ?_ | refine VJ.skip ?_ | refine VJ.cond_t rfl ?_ | refine VJ.cond_f rfl ?_ | refine VJ.region_k fun K hK => ?_ | (refine VR.done (hK _ ?_); clear hK K) | (first | refine VR.move rfl rfl ?_ | refine VR.assign rfl rfl ?_ | (show onLd; refine VR.load tok rfl rfl rfl (by first | rfl | exact (ldp_el (by assumption)).trans (by rfl)) ?_) | (show onIx; refine VR.indexAddr tok rfl rfl rfl rfl rfl rfl rfl (elA_lst (by assumption)) ?_) | refine VR.int rfl rfl rfl rfl ?_ | refine VR.box rfl rfl rfl ?_ | refine VR.alloc tok rfl rfl rfl ?_ | refine VR.store tok rfl rfl rfl rfl rfl rfl rfl (by first | (intro n e; cases e; done) | exact (fun _ _ q => all_glA (by rfl) q)) ?_ | refine VR.buildX [_, _, _, _, _] tok rfl rfl rfl rfl rfl rfl ?_ | refine VR.makeFunc rfl rfl ?_ | refine VR.len tok rfl rfl rfl rfl rfl ?_ | (refine VR.call fok34 rfl rfl rfl (by rfl) ?_; refine v_those s few _ (by exact ⟨hG.g0, hG.g1⟩) 45 [.ptr (.g 10) 0] fok45 rfl (onIn p) (fun a b Q h => v_on1 p a b _ (by exact ⟨rfl, trivial⟩) Q h) _ ?_; rw [← hl])))
    refine VJ.retF tok (by rfl) (by rfl) hG0 ?_ (by rfl) ?_
    · exact hret
    · exact hQ
